/- FormulaSame. -/
import Derived.Test.YtanhmigknafhkaaDoorFlaws
import Derived.Test.YtanhmigknafhkaaDoorPall
namespace Go.Proofs.YtanhmigknafhkaaDoor
open Go.RowKit Go.Shelf Go.Sort

theorem nm_ok {x : Nd} (h : NdOk x) : Nm x := ⟨h.val, h.lo, h.hi⟩
theorem tr_nm : ∀ {t : Tr}, t.ok → t.nm
  | .nil, _ => trivial
  | .cons _ _ _, h => ⟨nm_ok h.1, tr_nm h.2.1, tr_nm h.2.2⟩
theorem shows_same {x y : Nd} {ks js : Tr} (hx : NdOk x) (hk : ks.ok) (hy : NdOk y) (hj : js.ok) (h1 : firstW ((Tr.cons x ks .nil).nodes 1) = 0) (h2 : firstW ((Tr.cons y js .nil).nodes 1) = 0) : ((showT x ks).toList == (showT y js).toList) = same1 x ks y js := by
  unfold showT
  rw [if_pos h1, if_pos h2]
  rw [good_first] at h1 h2
  rw [Bool.eq_iff_iff, same1_iff, beq_iff_eq]
  constructor
  · intro h; exact text_inj h1.1 h1.2 (nm_ok hx) (tr_nm hk) h2.1 h2.2 (nm_ok hy) (tr_nm hj) (toList_inj h)
  · rintro ⟨rfl, rfl⟩; rfl
theorem same_symm (x y : Nd) (k j : Tr) : same1 y j x k = same1 x k y j := by
  rw [Bool.eq_iff_iff, same1_iff, same1_iff]
  constructor <;> (rintro ⟨rfl, rfl⟩; exact ⟨rfl, rfl⟩)
theorem same_self (x : Nd) (k : Tr) : same1 x k x k = true := (same1_iff x k x k).2 ⟨rfl, rfl⟩
/-- What the walk knows behind the eighth region. -/
def SameW (w : World) (x y : Nd) (A : Option Addr) (n c : Nat) (B : Option Addr) (m d : Nat) (wm : World) : Prop :=
  Fr Nob w wm ∧ Bx wm w.heap.size x A n c ∧ Bx wm (w.heap.size + 1) y B m d
set_option maxRecDepth 100000 in
set_option maxHeartbeats 16000000 in
theorem same_good (w : World) (x y : Nd) (A B : Option Addr) (c d : Nat) (ks js : Fo) (hs : FoSl w.heap.size w A c ks) (hs2 : FoSl w.heap.size w B d js) (hx : NdOk x) (hk : ks.tr.ok) (hy : NdOk y) (hj : js.tr.ok) (hv : ShVar w) (ht : TbVar w) (h0 : ¬ left1 x ks.tr 60 = 0) (h0' : ¬ left1 y js.tr 60 = 0) :
    Calls Tryd.prog 3 #[fval x A ks.len c, fval y B js.len d] w fun e w' => e = .returned (.bool true) ∧ Fr Nob w w' := by
  have HAW := Lib.hid (fun W (hf : Fr Nob w W) => law_awake W (hv.fr hf) (ht.fr hf))
  have HLF := Lib.hid (fun W (hf : Fr Nob w W) => law_left 60 w.heap.size W x A c ks (by decide) (hs.fr hf))
  have HLG := Lib.hid (fun W (hf : Fr Nob w W) => law_left 60 w.heap.size W y B d js (by decide) (hs2.fr hf))
  rw [show ((60 : Nat) : Int) = 60 from rfl] at HLF HLG
  have hpos : (0 : Int) < (left1 x ks.tr 60 : Nat) := by omega
  have hfew := few_of (x := x) (ks := ks.tr) (n := 60) (by omega)
  have hfew2 := few_of (x := y) (ks := js.tr) (n := 60) (by omega)
  have hpos2 : (0 : Int) < (left1 y js.tr 60 : Nat) := by omega
  have h1 := hfew.size
  have h2 := hfew2.size
  have HPF := Lib.hid (fun W (hf : Fr Nob w W) => law_plain' W x A c ks (by omega) ((hs.fr hf).mono hf.size))
  have HPG := Lib.hid (fun W (hf : Fr Nob w W) => law_plain' W y B d js (by omega) ((hs2.fr hf).mono hf.size))
  have HRS := Lib.hid (fun N W (A' B' : Option Addr) (c' d' : Nat) (ks' js' : Fo) (h1 : ks'.tr = ks.tr) (h2 : js'.tr = js.tr) (hsl : FoSl N W A' c' ks') (hsl2 : FoSl N W B' d' js') =>
    (show Calls Tryd.prog 13 #[fval x A' ks'.len c', fval y B' js'.len d'] W fun e w' => e = .returned (.bool (same1 x ks.tr y js.tr)) ∧ Fr Nob W w' by
      rw [← h1, ← h2]
      exact ref_Same ks'.tr.size N W x y A' B' c' d' ks' js' (Nat.le_refl _) (by rw [h1]; omega) hsl hsl2))
  have S1 := Lib.hid (fun W (hf : Fr Nob w W) => prg_Same W x y A B c d ks js ((hs.fr hf).mono hf.size) ((hs2.fr hf).mono hf.size) (by omega))
  have S2 := Lib.hid (fun W (hf : Fr Nob w W) => (same_symm x y ks.tr js.tr) ▸ prg_Same W y x B A d c js ks ((hs2.fr hf).mono hf.size) ((hs.fr hf).mono hf.size) (by omega))
  have S3 := Lib.hid (fun W (hf : Fr Nob w W) => (same_self x ks.tr) ▸ prg_Same W x x A A c c ks ks ((hs.fr hf).mono hf.size) ((hs.fr hf).mono hf.size) (by omega))
  have N1 := Lib.hid (fun W (hf : Fr Nob w W) => prg_Sound W x A c ks ((hs.fr hf).mono hf.size) (by omega) (hv.fr hf) hfew.names)
  have N2 := Lib.hid (fun W (hf : Fr Nob w W) => prg_Sound W y B d js ((hs2.fr hf).mono hf.size) (by omega) (hv.fr hf) hfew2.names)
  have T1 := Lib.hid (fun W (hf : Fr Nob w W) => prg_Show W x A c ks ((hs.fr hf).mono hf.size) (by omega) (hv.fr hf) (ht.fr hf) hx hk (by have := hfew.wt; omega) hfew.names)
  have T2 := Lib.hid (fun W (hf : Fr Nob w W) => prg_Show W y B d js ((hs2.fr hf).mono hf.size) (by omega) (hv.fr hf) (ht.fr hf) hy hj (by have := hfew2.wt; omega) hfew2.names)
  have HEQ := Lib.hid (shows_same (ks := ks.tr) (js := js.tr) hx hk hy hj)
  clear h1 h2 hfew hfew2 hs hs2 hx hk hy hj hv ht h0
  generalize left1 x ks.tr 60 = n at *
  generalize left1 y js.tr 60 = m at *
  generalize hsm : same1 x ks.tr y js.tr = sm at *
  generalize firstW ((Tr.cons x ks.tr .nil).nodes 1) = fw at *
  generalize firstW ((Tr.cons y js.tr .nil).nodes 1) = gw at *
  generalize showT x ks.tr = tf at *
  generalize showT y js.tr = tg at *
  unfold fval at *
  go_enter Tryd.func3, Tryd.ntmps3
  go_upto_region 8 with (first
    | ((go_at_call 11); refine (HAW.out _ (((Fr.refl _ _).alloc _).alloc _)).mono ?_; rintro e w1 ⟨rfl, hf1⟩; have hX := (Bx.of (x := x) ((Blk.new w _ _).alloc _)).fr hf1; have hY := (Bx.of (x := y) (Blk.new_eq (by simp) : Blk _ (w.heap.size + 1) 28 _)).fr hf1; have hfw := (((Fr.refl Nob w).alloc _).alloc _).call hf1 (fun _ h _ => h); clear hf1; have ⟨q0, q1, q2, q3, q4, q5, q6⟩ := hX; have ⟨p0, p1, p2, p3, p4, p5, p6⟩ := hY)
    | ((go_at_call 12); (with_reducible refine (HLF.out _ hfw).mono ?_); rintro e w1 ⟨rfl, hf1⟩; replace hfw := hfw.call hf1 (fun _ h _ => h); replace hX := hX.fr hf1; replace hY := hY.fr hf1; clear hf1; clear q0 q1 q2 q3 q4 q5 q6 p0 p1 p2 p3 p4 p5 p6; have ⟨q0, q1, q2, q3, q4, q5, q6⟩ := hX; have ⟨p0, p1, p2, p3, p4, p5, p6⟩ := hY)
    | ((go_at_call 12); (with_reducible refine (HLG.out _ hfw).mono ?_); rintro e w1 ⟨rfl, hf1⟩; replace hfw := hfw.call hf1 (fun _ h _ => h); replace hX := hX.fr hf1; replace hY := hY.fr hf1; clear hf1; clear q0 q1 q2 q3 q4 q5 q6 p0 p1 p2 p3 p4 p5 p6; have ⟨q0, q1, q2, q3, q4, q5, q6⟩ := hX; have ⟨p0, p1, p2, p3, p4, p5, p6⟩ := hY))
  go_cut [8] (fun sv wm => sv = .bool sm ∧ SameW w x y A ks.len c B js.len d wm)
  · replace hfw := hfw.drew
    go_region_held3 (fun w' => w'.cell? ⟨w.heap.size, 0, none⟩ = some (.int .i64 x.op) ∧ w'.cell? ⟨w.heap.size, 1, none⟩ = some (.string x.name) ∧ w'.cell? ⟨w.heap.size, 2, none⟩ = some (.int .i64 x.cmp) ∧ w'.cell? ⟨w.heap.size, 3, none⟩ = some (.int .i64 x.val) ∧ w'.cell? ⟨w.heap.size, 4, none⟩ = some (.int .i64 x.lo) ∧ w'.cell? ⟨w.heap.size, 5, none⟩ = some (.int .i64 x.hi) ∧ w'.cell? ⟨w.heap.size, 6, none⟩ = some (.slice A ks.len c) ∧ w'.cell? ⟨w.heap.size + 1, 0, none⟩ = some (.int .i64 y.op) ∧ w'.cell? ⟨w.heap.size + 1, 1, none⟩ = some (.string y.name) ∧ w'.cell? ⟨w.heap.size + 1, 2, none⟩ = some (.int .i64 y.cmp) ∧ w'.cell? ⟨w.heap.size + 1, 3, none⟩ = some (.int .i64 y.val) ∧ w'.cell? ⟨w.heap.size + 1, 4, none⟩ = some (.int .i64 y.lo) ∧ w'.cell? ⟨w.heap.size + 1, 5, none⟩ = some (.int .i64 y.hi) ∧ w'.cell? ⟨w.heap.size + 1, 6, none⟩ = some (.slice B js.len d))
      (first | (go_split_ands; refine ⟨?_, ?_, ?_, ?_, ?_, ?_, ?_, ?_, ?_, ?_, ?_, ?_, ?_, ?_⟩ <;> with_reducible exact Fr.cell hf2 (by assumption) (fun e => e)) | go_keep)
      (first | ((go_at_call 14); (with_reducible refine (HPF.out _ hfw).mono ?_); rintro e w2 ⟨A2, c2, ks2, rfl, hcp⟩; have hf2 := hcp.fr; replace hfw := hfw.call hf2 (fun _ h _ => h); have HC2 := Lib.hid hcp.tr; have HS2 := Lib.hid hcp.sl) | ((go_at_call 14); (with_reducible refine (HPG.out _ hfw).mono ?_); rintro e w2 ⟨A3, c3, ks3, rfl, hcq⟩; have hf2 := hcq.fr; replace hfw := hfw.call hf2 (fun _ h _ => h); have HS4 := Lib.hid (HRS.out _ _ _ _ _ _ _ _ HC2.out hcq.tr ((HS2.out.fr hf2).mono hf2.size) hcq.sl)) | ((go_at_call 13); refine (HS4.out).mono ?_; rintro e w2 ⟨rfl, hf2⟩; replace hfw := hfw.call hf2 (fun _ h _ => h)))
    have hH : w2.cell? ⟨w.heap.size, 0, none⟩ = some (.int .i64 x.op) ∧ w2.cell? ⟨w.heap.size, 1, none⟩ = some (.string x.name) ∧ w2.cell? ⟨w.heap.size, 2, none⟩ = some (.int .i64 x.cmp) ∧ w2.cell? ⟨w.heap.size, 3, none⟩ = some (.int .i64 x.val) ∧ w2.cell? ⟨w.heap.size, 4, none⟩ = some (.int .i64 x.lo) ∧ w2.cell? ⟨w.heap.size, 5, none⟩ = some (.int .i64 x.hi) ∧ w2.cell? ⟨w.heap.size, 6, none⟩ = some (.slice A ks.len c) ∧ w2.cell? ⟨w.heap.size + 1, 0, none⟩ = some (.int .i64 y.op) ∧ w2.cell? ⟨w.heap.size + 1, 1, none⟩ = some (.string y.name) ∧ w2.cell? ⟨w.heap.size + 1, 2, none⟩ = some (.int .i64 y.cmp) ∧ w2.cell? ⟨w.heap.size + 1, 3, none⟩ = some (.int .i64 y.val) ∧ w2.cell? ⟨w.heap.size + 1, 4, none⟩ = some (.int .i64 y.lo) ∧ w2.cell? ⟨w.heap.size + 1, 5, none⟩ = some (.int .i64 y.hi) ∧ w2.cell? ⟨w.heap.size + 1, 6, none⟩ = some (.slice B js.len d) := by assumption
    obtain ⟨q0, q1, q2, q3, q4, q5, q6, p0, p1, p2, p3, p4, p5, p6⟩ := hH
    go_wp2_with fail
    go_meet
    exact ⟨rfl, hfw, ⟨q0, q1, q2, q3, q4, q5, q6⟩, ⟨p0, p1, p2, p3, p4, p5, p6⟩⟩
  · clear hfw hX hY q0 q1 q2 q3 q4 q5 q6 p0 p1 p2 p3 p4 p5 p6 HAW HLF HLG HPF HPG HRS
    obtain ⟨rfl, hfw, hX, hY⟩ := hcut
    have ⟨q0, q1, q2, q3, q4, q5, q6⟩ := hX
    have ⟨p0, p1, p2, p3, p4, p5, p6⟩ := hY
    cases sm
    all_goals
      go_upto_region 11 with (first
        | ((go_at_call 15); (with_reducible refine (S1.out _ hfw).mono ?_); rintro e w3 ⟨rfl, hf1⟩; replace hfw := hfw.call hf1 (fun _ h _ => h); replace hX := hX.fr hf1; replace hY := hY.fr hf1; clear hf1; clear q0 q1 q2 q3 q4 q5 q6 p0 p1 p2 p3 p4 p5 p6; have ⟨q0, q1, q2, q3, q4, q5, q6⟩ := hX; have ⟨p0, p1, p2, p3, p4, p5, p6⟩ := hY)
        | ((go_at_call 15); (with_reducible refine (S2.out _ hfw).mono ?_); rintro e w3 ⟨rfl, hf1⟩; replace hfw := hfw.call hf1 (fun _ h _ => h); replace hX := hX.fr hf1; replace hY := hY.fr hf1; clear hf1; clear q0 q1 q2 q3 q4 q5 q6 p0 p1 p2 p3 p4 p5 p6; have ⟨q0, q1, q2, q3, q4, q5, q6⟩ := hX; have ⟨p0, p1, p2, p3, p4, p5, p6⟩ := hY)
        | ((go_at_call 15); (with_reducible refine (S3.out _ hfw).mono ?_); rintro e w3 ⟨rfl, hf1⟩; replace hfw := hfw.call hf1 (fun _ h _ => h); replace hX := hX.fr hf1; replace hY := hY.fr hf1; clear hf1; clear q0 q1 q2 q3 q4 q5 q6 p0 p1 p2 p3 p4 p5 p6; have ⟨q0, q1, q2, q3, q4, q5, q6⟩ := hX; have ⟨p0, p1, p2, p3, p4, p5, p6⟩ := hY))
      by_cases hfz : fw = 0
      · rw [show (fw == 0) = true by simpa using hfz] at N1
        by_cases hgz : gw = 0
        · rw [show (gw == 0) = true by simpa using hgz] at N2
          have he := HEQ.out hfz hgz
          clear hfz hgz HEQ
          clear hX hY S1 S2 S3
          replace hfw := hfw.drew
          go_region_held3 (fun w' => w'.cell? ⟨w.heap.size, 0, none⟩ = some (.int .i64 x.op) ∧ w'.cell? ⟨w.heap.size, 1, none⟩ = some (.string x.name) ∧ w'.cell? ⟨w.heap.size, 2, none⟩ = some (.int .i64 x.cmp) ∧ w'.cell? ⟨w.heap.size, 3, none⟩ = some (.int .i64 x.val) ∧ w'.cell? ⟨w.heap.size, 4, none⟩ = some (.int .i64 x.lo) ∧ w'.cell? ⟨w.heap.size, 5, none⟩ = some (.int .i64 x.hi) ∧ w'.cell? ⟨w.heap.size, 6, none⟩ = some (.slice A ks.len c) ∧ w'.cell? ⟨w.heap.size + 1, 0, none⟩ = some (.int .i64 y.op) ∧ w'.cell? ⟨w.heap.size + 1, 1, none⟩ = some (.string y.name) ∧ w'.cell? ⟨w.heap.size + 1, 2, none⟩ = some (.int .i64 y.cmp) ∧ w'.cell? ⟨w.heap.size + 1, 3, none⟩ = some (.int .i64 y.val) ∧ w'.cell? ⟨w.heap.size + 1, 4, none⟩ = some (.int .i64 y.lo) ∧ w'.cell? ⟨w.heap.size + 1, 5, none⟩ = some (.int .i64 y.hi) ∧ w'.cell? ⟨w.heap.size + 1, 6, none⟩ = some (.slice B js.len d))
            (first | (go_split_ands; refine ⟨?_, ?_, ?_, ?_, ?_, ?_, ?_, ?_, ?_, ?_, ?_, ?_, ?_, ?_⟩ <;> with_reducible exact Fr.cell hf2 (by assumption) (fun e => e)) | go_keep)
            (first | ((go_at_call 16); (with_reducible refine (N1.out _ hfw).mono ?_); rintro e w2 ⟨rfl, hf2⟩; replace hfw := hfw.call hf2 (fun _ h _ => h)) | ((go_at_call 16); (with_reducible refine (N2.out _ hfw).mono ?_); rintro e w2 ⟨rfl, hf2⟩; replace hfw := hfw.call hf2 (fun _ h _ => h)) | ((go_at_call 17); (with_reducible refine (T1.out _ hfw).mono ?_); rintro e w2 ⟨rfl, hf2⟩; replace hfw := hfw.call hf2 (fun _ h _ => h)) | ((go_at_call 17); (with_reducible refine (T2.out _ hfw).mono ?_); rintro e w2 ⟨rfl, hf2⟩; replace hfw := hfw.call hf2 (fun _ h _ => h)))
          all_goals (go_wp2_with fail)
          all_goals go_ret
          all_goals exact ⟨by first | rfl | (rw [he]; rfl), hfw⟩
        · rw [show (gw == 0) = false by simpa using hgz] at N2
          clear hfz hgz HEQ
          have HFW := Lib.hid hfw
          have k0 := cell_regrown q0
          have l0 := cell_regrown p0
          have k1 := cell_regrown q1
          have l1 := cell_regrown p1
          have k2 := cell_regrown q2
          have l2 := cell_regrown p2
          have k3 := cell_regrown q3
          have l3 := cell_regrown p3
          have k4 := cell_regrown q4
          have l4 := cell_regrown p4
          have k5 := cell_regrown q5
          have l5 := cell_regrown p5
          have k6 := cell_regrown q6
          have l6 := cell_regrown p6
          have C1 := Lib.hid (regr fun W hf => N1.out W (HFW.out.call hf (fun _ h _ => h)))
          have C2 := Lib.hid (regr fun W hf => N2.out W (HFW.out.call hf (fun _ h _ => h)))
          clear q0 q1 q2 q3 q4 q5 q6 p0 p1 p2 p3 p4 p5 p6 hfw hX hY S1 S2 S3 N1 N2 T1 T2
          refine wp_region_quiet_below (by kernel_rfl) (by kernel_rfl) ?_
          repeat (go_big_quiet_step (first | with_reducible exact C1.out _ _ | exact C2.out _ _))
          refine wpQuiet_nil ?_
          intro _ hw'
          obtain ⟨⟨dq, osq⟩, hw''⟩ := hw'
          subst hw''
          go_wp2_with fail
          go_ret
          exact ⟨by first | rfl | (rw [he]; rfl), HFW.out.call (Fr.of_below (S := Nob) (below_regrown _ dq osq)) (fun _ h _ => h)⟩
      · rw [show (fw == 0) = false by simpa using hfz] at N1
        clear hfz HEQ
        have HFW := Lib.hid hfw
        have k0 := cell_regrown q0
        have l0 := cell_regrown p0
        have k1 := cell_regrown q1
        have l1 := cell_regrown p1
        have k2 := cell_regrown q2
        have l2 := cell_regrown p2
        have k3 := cell_regrown q3
        have l3 := cell_regrown p3
        have k4 := cell_regrown q4
        have l4 := cell_regrown p4
        have k5 := cell_regrown q5
        have l5 := cell_regrown p5
        have k6 := cell_regrown q6
        have l6 := cell_regrown p6
        have C1 := Lib.hid (regr fun W hf => N1.out W (HFW.out.call hf (fun _ h _ => h)))
        have C2 := Lib.hid (regr fun W hf => N2.out W (HFW.out.call hf (fun _ h _ => h)))
        clear q0 q1 q2 q3 q4 q5 q6 p0 p1 p2 p3 p4 p5 p6 hfw hX hY S1 S2 S3 N1 N2 T1 T2
        refine wp_region_quiet_below (by kernel_rfl) (by kernel_rfl) ?_
        repeat (go_big_quiet_step (first | with_reducible exact C1.out _ _ | exact C2.out _ _))
        refine wpQuiet_nil ?_
        intro _ hw'
        obtain ⟨⟨dq, osq⟩, hw''⟩ := hw'
        subst hw''
        go_wp2_with fail
        go_ret
        exact ⟨by first | rfl | (rw [he]; rfl), HFW.out.call (Fr.of_below (S := Nob) (below_regrown _ dq osq)) (fun _ h _ => h)⟩
set_option maxRecDepth 100000 in
set_option maxHeartbeats 16000000 in
theorem law_FormulaSame (w : World) (x y : Nd) (A B : Option Addr) (c d : Nat) (ks js : Fo) (hs : FoSl w.heap.size w A c ks) (hs2 : FoSl w.heap.size w B d js) (hx : NdOk x) (hk : ks.tr.ok) (hy : NdOk y) (hj : js.tr.ok) (hv : ShVar w) (ht : TbVar w) :
    Calls Tryd.prog 3 #[fval x A ks.len c, fval y B js.len d] w fun e w' => e = .returned (.bool true) ∧ Fr Nob w w' := by
  have HAW := Lib.hid (fun W (hf : Fr Nob w W) => law_awake W (hv.fr hf) (ht.fr hf))
  have HLF := Lib.hid (fun W (hf : Fr Nob w W) => law_left 60 w.heap.size W x A c ks (by decide) (hs.fr hf))
  have HLG := Lib.hid (fun W (hf : Fr Nob w W) => law_left 60 w.heap.size W y B d js (by decide) (hs2.fr hf))
  rw [show ((60 : Nat) : Int) = 60 from rfl] at HLF HLG
  by_cases h0 : left1 x ks.tr 60 = 0
  · rw [h0] at HLF
    unfold fval at *
    clear hs hs2 hx hk hy hj hv ht h0
    have hfw : Fr Nob w w := Fr.refl _ _
    go_enter Tryd.func3, Tryd.ntmps3
    go_wp2_with (first | ((go_at_call 11); refine (HAW.out _ (((Fr.refl _ _).alloc _).alloc _)).mono ?_; rintro e w1 ⟨rfl, hf1⟩; obtain ⟨q0, q1, q2, q3, q4, q5, q6⟩ := (Bx.of (x := x) ((Blk.new w _ _).alloc _)).fr hf1; obtain ⟨p0, p1, p2, p3, p4, p5, p6⟩ := (Bx.of (x := y) (Blk.new_eq (by simp) : Blk _ (w.heap.size + 1) 28 _)).fr hf1; replace hfw := (((Fr.refl Nob w).alloc _).alloc _).call hf1 (fun _ h _ => h)) | ((go_at_call 12); (with_reducible refine (HLF.out _ hfw).mono ?_); rintro e w1 ⟨rfl, hf1⟩; replace hfw := hfw.call hf1 (fun _ h _ => h); replace q0 := hf1.cell q0 (fun e => e); replace q1 := hf1.cell q1 (fun e => e); replace q2 := hf1.cell q2 (fun e => e); replace q3 := hf1.cell q3 (fun e => e); replace q4 := hf1.cell q4 (fun e => e); replace q5 := hf1.cell q5 (fun e => e); replace q6 := hf1.cell q6 (fun e => e); replace p0 := hf1.cell p0 (fun e => e); replace p1 := hf1.cell p1 (fun e => e); replace p2 := hf1.cell p2 (fun e => e); replace p3 := hf1.cell p3 (fun e => e); replace p4 := hf1.cell p4 (fun e => e); replace p5 := hf1.cell p5 (fun e => e); replace p6 := hf1.cell p6 (fun e => e)) | ((go_at_call 12); (with_reducible refine (HLG.out _ hfw).mono ?_); rintro e w1 ⟨rfl, hf1⟩; replace hfw := hfw.call hf1 (fun _ h _ => h); replace q0 := hf1.cell q0 (fun e => e); replace q1 := hf1.cell q1 (fun e => e); replace q2 := hf1.cell q2 (fun e => e); replace q3 := hf1.cell q3 (fun e => e); replace q4 := hf1.cell q4 (fun e => e); replace q5 := hf1.cell q5 (fun e => e); replace q6 := hf1.cell q6 (fun e => e); replace p0 := hf1.cell p0 (fun e => e); replace p1 := hf1.cell p1 (fun e => e); replace p2 := hf1.cell p2 (fun e => e); replace p3 := hf1.cell p3 (fun e => e); replace p4 := hf1.cell p4 (fun e => e); replace p5 := hf1.cell p5 (fun e => e); replace p6 := hf1.cell p6 (fun e => e)))
    go_ret
    exact ⟨rfl, hfw⟩
  have hpos : (0 : Int) < (left1 x ks.tr 60 : Nat) := by omega
  by_cases h0' : left1 y js.tr 60 = 0
  · rw [h0'] at HLG
    generalize left1 x ks.tr 60 = n at *
    unfold fval at *
    clear hs hs2 hx hk hy hj hv ht h0'
    have hfw : Fr Nob w w := Fr.refl _ _
    go_enter Tryd.func3, Tryd.ntmps3
    go_wp2_with (first | ((go_at_call 11); refine (HAW.out _ (((Fr.refl _ _).alloc _).alloc _)).mono ?_; rintro e w1 ⟨rfl, hf1⟩; obtain ⟨q0, q1, q2, q3, q4, q5, q6⟩ := (Bx.of (x := x) ((Blk.new w _ _).alloc _)).fr hf1; obtain ⟨p0, p1, p2, p3, p4, p5, p6⟩ := (Bx.of (x := y) (Blk.new_eq (by simp) : Blk _ (w.heap.size + 1) 28 _)).fr hf1; replace hfw := (((Fr.refl Nob w).alloc _).alloc _).call hf1 (fun _ h _ => h)) | ((go_at_call 12); (with_reducible refine (HLF.out _ hfw).mono ?_); rintro e w1 ⟨rfl, hf1⟩; replace hfw := hfw.call hf1 (fun _ h _ => h); replace q0 := hf1.cell q0 (fun e => e); replace q1 := hf1.cell q1 (fun e => e); replace q2 := hf1.cell q2 (fun e => e); replace q3 := hf1.cell q3 (fun e => e); replace q4 := hf1.cell q4 (fun e => e); replace q5 := hf1.cell q5 (fun e => e); replace q6 := hf1.cell q6 (fun e => e); replace p0 := hf1.cell p0 (fun e => e); replace p1 := hf1.cell p1 (fun e => e); replace p2 := hf1.cell p2 (fun e => e); replace p3 := hf1.cell p3 (fun e => e); replace p4 := hf1.cell p4 (fun e => e); replace p5 := hf1.cell p5 (fun e => e); replace p6 := hf1.cell p6 (fun e => e)) | ((go_at_call 12); (with_reducible refine (HLG.out _ hfw).mono ?_); rintro e w1 ⟨rfl, hf1⟩; replace hfw := hfw.call hf1 (fun _ h _ => h); replace q0 := hf1.cell q0 (fun e => e); replace q1 := hf1.cell q1 (fun e => e); replace q2 := hf1.cell q2 (fun e => e); replace q3 := hf1.cell q3 (fun e => e); replace q4 := hf1.cell q4 (fun e => e); replace q5 := hf1.cell q5 (fun e => e); replace q6 := hf1.cell q6 (fun e => e); replace p0 := hf1.cell p0 (fun e => e); replace p1 := hf1.cell p1 (fun e => e); replace p2 := hf1.cell p2 (fun e => e); replace p3 := hf1.cell p3 (fun e => e); replace p4 := hf1.cell p4 (fun e => e); replace p5 := hf1.cell p5 (fun e => e); replace p6 := hf1.cell p6 (fun e => e)))
    go_ret
    exact ⟨rfl, hfw⟩
  · exact same_good w x y A B c d ks js hs hs2 hx hk hy hj hv ht h0 h0'
end Go.Proofs.YtanhmigknafhkaaDoor
