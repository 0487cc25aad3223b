/- ThreeGrows: what is known stays so under a later mark, and with later events. -/
import Derived.Test.YtkmicfjcikilhaaDoorQH34
import Derived.Test.YtkmicfjcikilhaaDoorQH36
namespace Go.Proofs.YtkmicfjcikilhaaDoor
open Go.RowKit Go.Lib

def oldL (W V : List Pt) (z : List Int) (n : Nat) : List Int := (List.range n).map fun i => xAt z (fromI V (tAt W i))
theorem oldL_len (W V : List Pt) (z : List Int) (n : Nat) : (oldL W V z n).length = n := by simp [oldL]
theorem oldL_snoc (W V : List Pt) (z : List Int) (n : Nat) : oldL W V z (n + 1) = oldL W V z n ++ [xAt z (fromI V (tAt W n))] := by
  unfold oldL; rw [List.range_succ, List.map_append]; rfl
theorem oldL_at (W V : List Pt) (z : List Int) {n i : Nat} (hi : i < n) : xAt (oldL W V z n) i = xAt z (fromI V (tAt W i)) := by
  unfold oldL
  show ((List.range n).map _).getD i 0 = _
  rw [List.getD_eq_getElem?_getD, List.getElem?_map, List.getElem?_range hi]
  rfl
def oldV (W V : List Pt) (z : List Int) (n : Nat) : List Value := (oldL W V z n).map ivI
theorem oldV_nil (W V : List Pt) (z : List Int) : oldV W V z 0 = [] := rfl
theorem oldV_snoc (W V : List Pt) (z : List Int) (n : Nat) : oldV W V z (n + 1) = oldV W V z n ++ [ivI (xAt z (fromI V (tAt W n)))] := by
  unfold oldV; rw [oldL_snoc, List.map_append]; rfl
theorem iv_one (v : Int) : ∀ u ∈ [ivI v], u.oneCell' = true := by intro u hu; simp at hu; subst hu; rfl
theorem rowA_len {x : Nd} {t : Tr} {W : List Pt} {mark : Int} (hg : firstW ((Tr.cons x t .nil).nodes 1) = 0) (hr : wRightB W = true) (hm : -1 ≤ mark) : (rowA x t W mark).length = W.length := by
  unfold rowA; rw [if_pos ⟨hg, hr, hm⟩, rowS_len]
theorem rowA_later {x : Nd} {t : Tr} {W : List Pt} {mark later : Int} (hg : firstW ((Tr.cons x t .nil).nodes 1) = 0) (hr : wRightB W = true) (h63 : ∀ p ∈ W, p.1 ≤ last63) (hm : -1 ≤ mark) (hl : mark ≤ later) {i : Nat} (hi : i < W.length) : xAt (rowA x t W mark) i = 2 ∨ xAt (rowA x t W mark) i = xAt (rowA x t W later) i := by
  unfold rowA
  rw [if_pos ⟨hg, hr, hm⟩, if_pos ⟨hg, hr, Int.le_trans hm hl⟩]
  exact rowS_grow (ext_id (rise_pts hr h63) mark) hl (madeS x t) hi
theorem rowA_more {x : Nd} {t : Tr} {W V : List Pt} {mark : Int} (hg : firstW ((Tr.cons x t .nil).nodes 1) = 0) (hr : wRightB W = true) (h63 : ∀ p ∈ W, p.1 ≤ last63) (hm : -1 ≤ mark) (hV : LateW W V mark) {i : Nat} (hi : i < W.length) : xAt (rowA x t W mark) i = 2 ∨ xAt (rowA x t W mark) i = xAt (oldL W V (rowA x t V mark) W.length) i := by
  rw [oldL_at _ _ _ hi]
  unfold rowA
  rw [if_pos ⟨hg, hr, hm⟩, if_pos ⟨hg, hV.right, hm⟩]
  exact row_more hV hr h63 (madeS x t) hi
theorem pts63 {ps : List Pn} (h63 : ∀ p ∈ ps, p.t ≤ last63) : ∀ p ∈ pts ps, p.1 ≤ last63 := fun p hp => by
  unfold pts at hp
  rw [List.mem_map] at hp
  obtain ⟨q, hq, rfl⟩ := hp
  exact h63 q hq
theorem pn63 {qs : List Pn} {V : List Pt} (hq : pts qs = V) (h63 : ∀ p ∈ V, p.1 ≤ last63) : ∀ p ∈ qs, p.t ≤ last63 := fun p hp => by
  have := h63 p.pt (by rw [← hq]; exact List.mem_map_of_mem hp)
  exact this
/-- The word with the later events: where it lies, and what may be asked of it. -/
structure MoreP (W V : List Pt) (mark : Int) : Prop where
  late : LateW W V mark
  right : wRightB V = true
  bnd : BndW V 26 110
  hi : ∀ p ∈ V, p.1 ≤ last63
theorem MoreP.nm {W V : List Pt} {mark : Int} (h : MoreP W V mark) {qs : List Pn} (hq : pts qs = V) : NmW qs ∧ qs.length ≤ 26 ∧ ∀ p ∈ qs, p.t ≤ last63 := by
  have hb := h.bnd
  rw [← hq] at hb
  obtain ⟨h1, h2⟩ := bnd_pn hb
  exact ⟨fun p hp y hy => by have := (h2 p hp).2 y hy; omega, h1, pn63 hq h.hi⟩
theorem MoreP.from_ {W V : List Pt} {mark : Int} (h : MoreP W V mark) (hr : wRightB W = true) (h63 : ∀ p ∈ W, p.1 ≤ last63) {i : Nat} (hi : i < W.length) : fromI V (tAt W i) < V.length := (h.late.ext hr h63).lt i hi
set_option maxRecDepth 100000 in
set_option maxHeartbeats 4000000 in
theorem more_From (w : World) {W V : List Pt} {mark : Int} (h : MoreP W V mark) (A : Option Addr) (c : Nat) (qs : List Pn) (hq : pts qs = V) (hw : WSl w A c qs) (t : Int) :
    Calls Tryd.prog 24 #[.slice A qs.length c, .int .i64 t] w fun e w' => e = .returned (.int .i64 (fromI V t : Nat)) ∧ Fr Nob w w' := by
  have h1 := h.nm hq
  have h2 := wd_From w A c qs t hw h1.1 (by omega)
  rw [hq] at h2
  unfold fromW at h2
  rwa [if_pos h.right] at h2
set_option maxRecDepth 100000 in
set_option maxHeartbeats 16000000 in
theorem law_ThreeGrows (w : World) (x : Nd) (B : Option Addr) (d : Nat) (ks : Fo) (hs : FoSl w.heap.size w B d ks) (hv : ShVar w) (htv : ThVar w) (A : Option Addr) (c : Nat) (ps : List Pn) (h : WSl w A c ps) (h63 : ∀ p ∈ ps, p.t ≤ last63) (mark later : Int) (C : Option Addr) (f : Nat) (es : List Ev) (he : ESl w C f es) (he63 : ∀ e ∈ es, e.t ≤ last63) :
    Calls Tryd.prog 6 #[fval x B ks.len d, .slice A ps.length c, .int .i64 mark, .int .i64 later, .slice C es.length f] w fun e w' => e = .returned (.bool true) ∧ Fr Nob w w' := by
  have HAW := Lib.hid (fun W (hf : Fr Nob w W) => l15_awake W (hv.fr hf) (htv.fr hf))
  have HLF := Lib.hid (fun W (hf : Fr Nob w W) => (show Calls Tryd.prog 9 #[fval x B ks.len d, .int .i64 60] W fun e w' => e = .returned (.int .i64 (left1 x ks.tr 60 : Nat)) ∧ Fr Nob W w' from l15_left 60 w.heap.size W x B d ks (by decide) (hs.fr hf)))
  have HFW := Lib.hid (fun W (hf : Fr Nob w W) => l15_fewD W A c ps (h.pure hf))
  have HSH := Lib.hid (fun W (hf : Fr Nob w W) => l15_shortD W C f es (he.pure hf))
  have HS := Lib.hid hs
  have HV := Lib.hid hv
  have HTV := Lib.hid htv
  have HWS := Lib.hid h
  have HES := Lib.hid he
  have HLP := Lib.hid (fun (h0 : 0 < left1 x ks.tr 60) => few_of (x := x) (ks := ks.tr) (n := 60) h0)
  clear hs hv htv h he
  generalize left1 x ks.tr 60 = n0 at *
  unfold fval at *
  go_enter Tryd.func6, Tryd.ntmps6
  have HB0 := Lib.hid (show Blk (w.alloc (.cells #[.int .i64 x.op, .string x.name, .int .i64 x.cmp, .int .i64 x.val, .int .i64 x.lo, .int .i64 x.hi, .slice B ks.len d] 28)) w.heap.size 28 _ from Blk.new _ _ _)
  go_upto_region 5 with (first
    | ((go_at_call 8); (with_reducible refine (HAW.out _ ((Fr.refl _ _).alloc _)).mono ?_); rintro e w1 ⟨rfl, hf1⟩; have HF1 := Lib.hid (((Fr.refl Nob w).alloc _).call hf1 (fun _ h _ => h)); have HX1 := Lib.hid (HB0.out.fr hf1 (fun e => e)); have xc := HX1.out.cell; have xl := HX1.out.lt; clear hf1)
    | ((go_at_call 9); (with_reducible refine (HLF.out _ HF1.out).mono ?_); rintro e w2 ⟨rfl, hf2⟩; have HF2 := Lib.hid (HF1.out.call hf2 (fun _ h _ => h)); have HX2 := Lib.hid (HX1.out.fr hf2 (fun e => e)); clear hf2)
    | fail)
  clear xc xl HX1 HF1 HB0 HAW HLF
  have q0 := HX2.out.cell
  have q1 := HX2.out.lt
  by_cases hF : FewW ps
  case neg =>
    replace HFW := Lib.hid (fun W (hf : Fr Nob w W) => HFW.out W hf false (iff_of_false (by simp) hF))
    by_cases hn : n0 = 0
    · subst hn
      go_wp2_with (first
        | ((go_at_call 10); (with_reducible refine (HFW.out _ HF2.out).mono ?_); rintro e w3 ⟨rfl, rfl⟩)
        | ((go_at_call 22); (with_reducible refine (HSH.out _ HF2.out).mono ?_); rintro e w3 ⟨rfl, rfl⟩)
        | fail)
      go_ret
      exact ⟨rfl, HF2.out⟩
    · have hnI : ¬ (n0 : Int) ≤ 0 := by omega
      have hnI2 : (0 : Int) < n0 := by omega
      go_wp2_with (first
        | ((go_at_call 10); (with_reducible refine (HFW.out _ HF2.out).mono ?_); rintro e w3 ⟨rfl, rfl⟩)
        | ((go_at_call 22); (with_reducible refine (HSH.out _ HF2.out).mono ?_); rintro e w3 ⟨rfl, rfl⟩)
        | fail)
      go_ret
      exact ⟨rfl, HF2.out⟩
  replace HFW := Lib.hid (fun W (hf : Fr Nob w W) => HFW.out W hf true (iff_of_true rfl hF))
  by_cases hE : ShortE es
  case neg =>
    replace HSH := Lib.hid (fun W (hf : Fr Nob w W) => HSH.out W hf false (iff_of_false (by simp) hE))
    by_cases hn : n0 = 0
    · subst hn
      go_wp2_with (first
        | ((go_at_call 10); (with_reducible refine (HFW.out _ HF2.out).mono ?_); rintro e w3 ⟨rfl, rfl⟩)
        | ((go_at_call 22); (with_reducible refine (HSH.out _ HF2.out).mono ?_); rintro e w3 ⟨rfl, rfl⟩)
        | fail)
      go_ret
      exact ⟨rfl, HF2.out⟩
    · have hnI : ¬ (n0 : Int) ≤ 0 := by omega
      have hnI2 : (0 : Int) < n0 := by omega
      go_wp2_with (first
        | ((go_at_call 10); (with_reducible refine (HFW.out _ HF2.out).mono ?_); rintro e w3 ⟨rfl, rfl⟩)
        | ((go_at_call 22); (with_reducible refine (HSH.out _ HF2.out).mono ?_); rintro e w3 ⟨rfl, rfl⟩)
        | fail)
      go_ret
      exact ⟨rfl, HF2.out⟩
  replace HSH := Lib.hid (fun W (hf : Fr Nob w W) => HSH.out W hf true (iff_of_true rfl hE))
  by_cases hn : n0 = 0
  · subst hn
    go_wp2_with (first
      | ((go_at_call 10); (with_reducible refine (HFW.out _ HF2.out).mono ?_); rintro e w3 ⟨rfl, rfl⟩)
      | ((go_at_call 22); (with_reducible refine (HSH.out _ HF2.out).mono ?_); rintro e w3 ⟨rfl, rfl⟩)
      | fail)
    go_ret
    exact ⟨rfl, HF2.out⟩
  have hnI : ¬ (n0 : Int) ≤ 0 := by omega
  have hnI2 : (0 : Int) < n0 := by omega
  have hL := HLP.out (by omega)
  have hnw : NmW ps := fun p hp y hy => by have := (hF.2 p hp).2 y hy; omega
  have h1 := hL.size
  have hfew : ps.length ≤ 1000 := by have := hF.1; omega
  have HSD := Lib.hid (fun W (hf : Fr Nob w W) => prg_Sound W x B d ks ((HS.out.fr hf).mono hf.size) (by omega) (HV.out.fr hf) hL.names)
  have HRT := Lib.hid (fun W (hf : Fr Nob w W) => wd_Right W A c ps (HWS.out.pure hf) hnw hfew)
  unfold fval at HSD
  by_cases hg : firstW ((Tr.cons x ks.tr .nil).nodes 1) = 0
  case neg =>
    have hg' : (firstW ((Tr.cons x ks.tr .nil).nodes 1) == 0) = false := by simpa using hg
    rw [hg'] at HSD
    clear hg hg' h1 hL hF hE hnw hn
    go_wp2_with (first
      | ((go_at_call 10); (with_reducible refine (HFW.out _ HF2.out).mono ?_); rintro e w3 ⟨rfl, rfl⟩)
      | ((go_at_call 22); (with_reducible refine (HSH.out _ HF2.out).mono ?_); rintro e w3 ⟨rfl, rfl⟩)
      | ((go_at_call 15); (with_reducible refine (HSD.out _ HF2.out).mono ?_); rintro e w4 ⟨rfl, hf4⟩)
      | fail)
    go_ret
    exact ⟨rfl, HF2.out.call hf4 (fun _ h _ => h)⟩
  rw [hg] at HSD
  cases hr : wRightB (pts ps)
  · rw [hr] at HRT
    clear hr hg h1 hL hF hE hnw hn
    go_wp2_with (first
      | ((go_at_call 10); (with_reducible refine (HFW.out _ HF2.out).mono ?_); rintro e w3 ⟨rfl, rfl⟩)
      | ((go_at_call 22); (with_reducible refine (HSH.out _ HF2.out).mono ?_); rintro e w3 ⟨rfl, rfl⟩)
      | ((go_at_call 15); (with_reducible refine (HSD.out _ HF2.out).mono ?_); rintro e w4 ⟨rfl, hf4⟩; have HF4 := Lib.hid (HF2.out.call hf4 (fun _ h _ => h)))
      | ((go_at_call 16); (with_reducible refine (HRT.out _ HF4.out).mono ?_); rintro e w5 ⟨rfl, hf5⟩)
      | fail)
    go_ret
    exact ⟨rfl, HF4.out.call hf5 (fun _ h _ => h)⟩
  rw [hr] at HRT
  by_cases hml0 : mark < -1 ∨ later < mark
  · rcases (show mark < -1 ∨ (-1 ≤ mark ∧ later < mark) by omega) with hm | ⟨hm, hl⟩
    all_goals
      clear hr hg h1 hL hF hE hnw hn hml0
      go_wp2_with (first
        | ((go_at_call 10); (with_reducible refine (HFW.out _ HF2.out).mono ?_); rintro e w3 ⟨rfl, rfl⟩)
        | ((go_at_call 22); (with_reducible refine (HSH.out _ HF2.out).mono ?_); rintro e w3 ⟨rfl, rfl⟩)
        | ((go_at_call 15); (with_reducible refine (HSD.out _ HF2.out).mono ?_); rintro e w4 ⟨rfl, hf4⟩; have HF4 := Lib.hid (HF2.out.call hf4 (fun _ h _ => h)))
        | ((go_at_call 16); (with_reducible refine (HRT.out _ HF4.out).mono ?_); rintro e w5 ⟨rfl, hf5⟩)
        | fail)
      go_ret
      exact ⟨rfl, HF4.out.call hf5 (fun _ h _ => h)⟩
  have hm1 : -1 ≤ mark := by omega
  have hm2 : mark ≤ later := by omega
  have hp63 := pts63 h63
  have hpl := pts_len ps
  obtain ⟨V, hVe⟩ : ∃ V, V = moreW (pts ps) mark es := ⟨_, rfl⟩
  have HMO := Lib.hid (fun W (hf : Fr Nob w W) => l15_more W A c ps mark C f es (HWS.out.pure hf) (HES.out.pure hf) hF hE)
  rw [← hVe] at HMO
  have HRR := Lib.hid hr
  have HP63 := Lib.hid hp63
  have HLT := Lib.hid (show LateW (pts ps) V mark from by rw [hVe]; exact late_more hr es he63)
  have HMP := Lib.hid (fun (hb : BndW V 26 110) => show MoreP (pts ps) V mark from ⟨HLT.out, HLT.out.right, hb, HLT.out.hi HP63.out⟩)
  have hxl : (rowA x ks.tr (pts ps) mark).length = ps.length := by rw [rowA_len hg hr hm1, pts_len]
  have hyl : (rowA x ks.tr (pts ps) later).length = ps.length := by rw [rowA_len hg hr (by omega), pts_len]
  have hzl : (rowA x ks.tr V mark).length = V.length := rowA_len hg HLT.out.right hm1
  have HROX := Lib.hid (fun W (hf : Fr Nob w W) => (th_Row W x B d ks ((HS.out.fr hf).mono hf.size) (by omega) (HV.out.fr hf) (HTV.out.fr hf) hL.names A c ps (HWS.out.pure hf) hnw h63 hfew mark).mono fun e w' h => IMade.n h hxl)
  have HROY := Lib.hid (fun W (hf : Fr Nob w W) => (th_Row W x B d ks ((HS.out.fr hf).mono hf.size) (by omega) (HV.out.fr hf) (HTV.out.fr hf) hL.names A c ps (HWS.out.pure hf) hnw h63 hfew later).mono fun e w' h => IMade.n h hyl)
  have HROZ := Lib.hid (fun W (hf : Fr Nob w W) (A' : Option Addr) (c' : Nat) (qs : List Pn) (hq : pts qs = V) (hw : WSl W A' c' qs) (hb : BndW V 26 110) => (show Calls Tryd.prog 11 #[fval x B ks.len d, .slice A' qs.length c', .int .i64 mark] W fun e w' => IMN W w' e (rowA x ks.tr V mark) qs.length from by
    have h1 := (HMP.out hb).nm hq
    have h2 := th_Row W x B d ks ((HS.out.fr hf).mono hf.size) (by omega) (HV.out.fr hf) (HTV.out.fr hf) hL.names A' c' qs hw h1.1 h1.2.2 (by omega) mark
    rw [hq] at h2
    exact h2.mono fun e w' h => IMade.n h (by rw [hzl, ← hq, pts_len])))
  have HSTY := Lib.hid (fun W A1 c1 A2 c2 (h1 : Sl W 1 A1 ps.length c1 ((rowA x ks.tr (pts ps) mark).map ivI)) (h2 : Sl W 1 A2 ps.length c2 ((rowA x ks.tr (pts ps) later).map ivI)) => (show Calls Tryd.prog 19 #[.slice A1 ps.length c1, .slice A2 ps.length c2] W fun e w' => e = .returned (.bool true) ∧ Fr Nob W w' from by
    have := l15_stays W A1 c1 (rowA x ks.tr (pts ps) mark) A2 c2 (rowA x ks.tr (pts ps) later) (by rw [hxl]; exact h1) (by rw [hyl]; exact h2) (by rw [hxl, hyl]) (rowA_tri _ _ _ _) (fun i hi => rowA_later hg hr hp63 hm1 hm2 (by rw [pts_len]; omega))
    rwa [hxl, hyl] at this))
  have HSTO := Lib.hid (fun W A1 c1 A2 c2 (h1 : Sl W 1 A1 ps.length c1 ((rowA x ks.tr (pts ps) mark).map ivI)) (h2 : Sl W 1 A2 ps.length c2 (oldV (pts ps) V (rowA x ks.tr V mark) ps.length)) => (show Calls Tryd.prog 19 #[.slice A1 ps.length c1, .slice A2 ps.length c2] W fun e w' => e = .returned (.bool true) ∧ Fr Nob W w' from by
    have := l15_stays W A1 c1 (rowA x ks.tr (pts ps) mark) A2 c2 (oldL (pts ps) V (rowA x ks.tr V mark) ps.length) (by rw [hxl]; exact h1) (by rw [oldL_len]; exact h2) (by rw [hxl, oldL_len]) (rowA_tri _ _ _ _) (fun i hi => by
      have h3 := rowA_more (x := x) (t := ks.tr) hg hr hp63 hm1 HLT.out (i := i) (by rw [pts_len]; omega)
      rwa [pts_len] at h3)
    rwa [hxl, oldL_len] at this))
  have HFRM := Lib.hid (fun W A' c' qs (hq : pts qs = V) (hw : WSl W A' c' qs) (hb : BndW V 26 110) t => more_From W (HMP.out hb) A' c' qs hq hw t)
  have HKL := Lib.hid (fun (hb : BndW V 26 110) i (hi : i < ps.length) => (HMP.out hb).from_ HRR.out HP63.out (i := i) (by rw [pts_len]; exact hi))
  have HZL := Lib.hid hzl
  unfold fval at HROX HROY HROZ
  generalize rowA x ks.tr (pts ps) mark = lx at *
  generalize rowA x ks.tr (pts ps) later = ly at *
  generalize rowA x ks.tr V mark = lz at *
  have hps16 := hF.1
  clear hr hg h1 hL hF hE hnw hn hml0 hxl hyl hzl hVe hp63 hpl h63 he63 HLP HLT HMP HV HTV HS HES HRR HP63
  go_upto_region 8 with (first
    | ((go_at_call 10); (with_reducible refine (HFW.out _ HF2.out).mono ?_); rintro e w3 ⟨rfl, rfl⟩)
    | ((go_at_call 22); (with_reducible refine (HSH.out _ HF2.out).mono ?_); rintro e w3 ⟨rfl, rfl⟩)
    | ((go_at_call 15); (with_reducible refine (HSD.out _ HF2.out).mono ?_); rintro e w4 ⟨rfl, hf4⟩; have HF4 := Lib.hid (HF2.out.call hf4 (fun _ h _ => h)); have HX4 := Lib.hid (HX2.out.fr hf4 (fun e => e)))
    | ((go_at_call 16); (with_reducible refine (HRT.out _ HF4.out).mono ?_); rintro e w5 ⟨rfl, hf5⟩; have HF5 := Lib.hid (HF4.out.call hf5 (fun _ h _ => h)); have HX5 := Lib.hid (HX4.out.fr hf5 (fun e => e)); have p0 := HX5.out.cell; have p1 := HX5.out.lt)
    | fail)
  clear q0 q1 hf4 hf5 HF2 HX2 HF4 HX4 HSD HRT HFW HSH
  go_upto_region 12 with (first
    | ((go_at_call 11); (with_reducible refine (HROX.out _ HF5.out).mono ?_); rintro e w6 ⟨XA, cX, rfl, hxs, hf6⟩; have HF6 := Lib.hid (HF5.out.call hf6 (fun _ h _ => h)); have HX6 := Lib.hid (HX5.out.fr hf6 (fun e => e)); have p0 := HX6.out.cell; have p1 := HX6.out.lt; have HXS := Lib.hid hxs; clear hxs hf6)
    | ((go_at_call 11); (with_reducible refine (HROY.out _ HF6.out).mono ?_); rintro e w7 ⟨YA, cY, rfl, hys, hf7⟩; have HF7 := Lib.hid (HF6.out.call hf7 (fun _ h _ => h)); have HX7 := Lib.hid (HX6.out.fr hf7 (fun e => e)); have p0 := HX7.out.cell; have p1 := HX7.out.lt; have HXS7 := Lib.hid (HXS.out.pure hf7); have HYS := Lib.hid hys; clear hys hf7)
    | ((go_at_call 19); (with_reducible refine (HSTY.out _ _ _ _ _ HXS7.out HYS.out).mono ?_); rintro e w8 ⟨rfl, hf8⟩; have HF8 := Lib.hid (HF7.out.call hf8 (fun _ h _ => h)); have HX8 := Lib.hid (HX7.out.fr hf8 (fun e => e)); have p0 := HX8.out.cell; have p1 := HX8.out.lt; have HXS8 := Lib.hid (HXS7.out.pure hf8); clear hf8)
    | fail)
  clear HF5 HX5 HF6 HX6 HXS HF7 HX7 HXS7 HYS HSTY HROX HROY
  go_upto_region 14 with (first
    | ((go_at_call 23); (with_reducible refine (HMO.out _ HF8.out).mono ?_); rintro e w9 ⟨VA, cV, qs, rfl, hq, hb, hqs, hf9⟩; have HF9 := Lib.hid (HF8.out.call hf9 (fun _ h _ => h)); have HX9 := Lib.hid (HX8.out.fr hf9 (fun e => e)); have p0 := HX9.out.cell; have p1 := HX9.out.lt; have HXS9 := Lib.hid (HXS8.out.pure hf9); have HQ := Lib.hid hq; have HB := Lib.hid hb; have HQS := Lib.hid hqs; clear hq hb hqs hf9)
    | ((go_at_call 11); (with_reducible refine (HROZ.out _ HF9.out _ _ _ HQ.out HQS.out HB.out).mono ?_); rintro e w10 ⟨ZA, cZ, rfl, hzs, hf10⟩; have HF10 := Lib.hid (HF9.out.call hf10 (fun _ h _ => h)); have HXS10 := Lib.hid (HXS9.out.pure hf10); have HQS10 := Lib.hid (HQS.out.pure hf10); have HZS := Lib.hid hzs; clear hzs hf10)
    | fail)
  clear p0 p1 HF8 HX8 HXS8 HF9 HX9 HXS9 HQS HROZ HMO
  have HQV := Lib.hid (show lz.length = qs.length by rw [HZL.out, ← HQ.out, pts_len])
  go_upto_region 17 with fail
  go_wp2_with fail
  go_loopw [18, 19] (fun ov iv wr => ∃ (k : Nat) (A' : Option Addr) (c' : Nat), k ≤ ps.length ∧ iv = .int .i64 k ∧ ov = .slice A' k c' ∧ Hid (Fr Nob w10 wr) ∧ Hid (wr.ownsRow w10.heap.size 3 1 (.slice A' k c') k (oldV (pts ps) V lz k))) (fun _ iv _ => ps.length - (intOf iv).toNat)
  case atStart => exact ⟨0, none, 0, Nat.zero_le _, rfl, rfl, Lib.hid (Fr.refl _ _), Lib.hid (by rw [oldV_nil]; exact World.ownsRow_nil _ _ _ _)⟩
  case round =>
    obtain ⟨i, A', c', hi, rfl, rfl, hfr, hown⟩ := hrel
    by_cases hlt : i < ps.length
    · have hI2 : (i : Int) < ps.length := by omega
      have hI3 : 0 ≤ (i : Int) := by omega
      have HKV := Lib.hid (oldV_snoc (pts ps) V lz i)
      have hkl := HKL.out HB.out i hlt
      have hz0 : fromI V (tAt (pts ps) i) < lz.length := by rw [HZL.out]; exact hkl
      have hk26 : fromI V (tAt (pts ps) i) < qs.length := by rw [← HQV.out]; exact hz0
      obtain ⟨b3, u3, hA3, hb3, t0, _⟩ := (HWS.out.pure (HF10.out.call hfr.out (fun _ h _ => h))).at_ hlt
      rw [← tAt_pts hlt] at t0
      have HFM := Lib.hid (fun W (hw : WSl W VA cV qs) => HFRM.out W VA cV qs HQ.out hw HB.out (tAt (pts ps) i))
      have HFK := Lib.hid (fun W (hf : Fr Nob wr W) => row_at (L := lz) (c := cZ) (A := ZA) (w := W) (by rw [HQV.out]; exact HZS.out.pure (hfr.out.call hf (fun _ h _ => h))) (k := fromI V (tAt (pts ps) i)) hz0)
      generalize fromI V (tAt (pts ps) i) = κ at *
      generalize tAt (pts ps) i = ti at *
      generalize oldV (pts ps) V lz i = ov0 at *
      generalize xAt lz κ = zk at *
      subst hA3
      have hK2 : (κ : Int) < qs.length := by omega
      have hK3 : 0 ≤ (κ : Int) := by omega
      clear hkl hz0
      go_upto_region 21 with (first
        | ((go_at_call 24); (with_reducible refine (HFM.out _ (HQS10.out.pure hfr.out)).mono ?_); rintro e w11 ⟨rfl, hf11⟩; have HF11 := Lib.hid hf11; clear hf11)
        | fail)
      obtain ⟨b1, u1, rfl, hb1, d0⟩ := HFK.out _ HF11.out
      have HO1 := Lib.hid (own_fr hown.out HF11.out (fun _ _ _ _ e => e))
      clear t0 hb3
      go_wp2_with (at_builtin; refine wpList_app rfl _ _ 33 rfl el_i1 (base := w10.heap.size) (xs := ov0) (news := [ivI zk]) rfl ?own rfl ?src ?one ?h63 ?hby ?hbase ?_)
      case own => exact own_fr HO1.out ((Fr.refl Nob _).alloc _) (fun _ _ _ _ e => e)
      case src => exact Sl.new1 (Blk.new_eq (by simp)) 1 1 rfl (by decide)
      case one => exact iv_one _
      case h63 => unfold maxLen; omega
      case hby => omega
      case hbase => have h2 := hfr.out.size; have h3 := HF11.out.size; simp; omega
      intro A2 c2 w12 hown2 hgr2 hl2
      have HO2 := Lib.hid (show w12.ownsRow w10.heap.size 3 1 (.slice A2 (i + 1) c2) (i + 1) (oldV (pts ps) V lz (i + 1)) from by rw [HKV.out]; exact hown2)
      have HF12 := Lib.hid (((hfr.out.call HF11.out (fun _ h _ => h)).alloc _).grown hgr2 (fun k hk hlt => by have := own_base HO1.out k hk; omega))
      clear hown2 hgr2 hl2
      go_wp2_with fail
      go_roundw
      case rel => exact ⟨i + 1, A2, c2, by omega, by go_num, rfl, HF12, HO2⟩
      case measure => simp [intOf]; omega
    · obtain rfl : i = ps.length := by omega
      have HXA := Lib.hid (HXS10.out.pure hfr.out)
      have HOA := Lib.hid (Sl.of_own hown.out)
      have HFA := Lib.hid (HF10.out.call hfr.out (fun _ h _ => h))
      have hlt3 : ¬ (ps.length : Int) < ps.length := by omega
      clear hfr hown
      go_wp2_with (first
        | ((go_at_call 19); (with_reducible refine (HSTO.out _ _ _ _ _ HXA.out HOA.out).mono ?_); rintro e w13 ⟨rfl, hf13⟩)
        | fail)
      go_ret
      exact ⟨rfl, HFA.out.call hf13 (fun _ h _ => h)⟩
end Go.Proofs.YtkmicfjcikilhaaDoor
