/- FormulaChecks, FormulaShows. -/
import Derived.Test.YtdiapojppmoghaaDoorFawake
import Derived.Lib.QuietBelow
namespace Go.Proofs.YtdiapojppmoghaaDoor
open Go.RowKit Go.Shelf Go.Sort

/-- A callee that reads and makes memory, met in a region that draws its order. -/
theorem regr {f : FuncId} {args : Array Value} {W : World} {v : Value} (h : ∀ X, Fr Nob W X → Calls Tryd.prog f args X fun e w' => e = .returned v ∧ Fr Nob X w') (d : Nat) (os : Array Obj) :
    Calls Tryd.prog f args (grow (redrawn W d) os) fun e w'' => e = .returned v ∧ ∃ p : Regrown, w'' = grow (redrawn W p.d) p.os :=
  Calls.regrown_of ((h _ (Fr.of_below (below_regrown W d os))).mono fun _ _ ⟨h1, h2⟩ => ⟨h1, h2.below⟩)
theorem shortN_nodes (t : Tr) : t.shortN → ∀ d, ∀ y ∈ t.nodes d, y.1.name.size ≤ 40 := by
  induction t with
  | nil => intro _ d y hy; simp [Tr.nodes] at hy
  | cons x k r ihk ihr =>
    rintro ⟨h1, h2, h3⟩ d y hy
    simp only [Tr.nodes, List.mem_cons, List.mem_append] at hy
    rcases hy with rfl | hy | hy
    · exact h1
    · exact ihk h2 _ y hy
    · exact ihr h3 _ y hy
theorem shortN_wt (t : Tr) : t.shortN → t.wt ≤ t.size * 140 := by
  induction t with
  | nil => intro _; exact Nat.le_refl _
  | cons x k r ihk ihr =>
    rintro ⟨h1, h2, h3⟩
    have := ihk h2; have := ihr h3
    simp only [Tr.wt, Tr.size]; omega
/-- What a formula that is not too great gives. -/
structure Few (x : Nd) (ks : Tr) (n : Nat) : Prop where
  size : ks.size + 1 ≤ n
  names : ∀ y ∈ (Tr.cons x ks .nil).nodes 1, y.1.name.size ≤ 9223372036854775807
  wt : x.name.size + ks.wt ≤ 140 * n
theorem few_of {x : Nd} {ks : Tr} {n : Nat} (h : 0 < left1 x ks n) : Few x ks n := by
  obtain ⟨h1, h2, h3⟩ := left1_pos h
  refine ⟨h1, fun y hy => ?_, ?_⟩
  · have := shortN_nodes (.cons x ks .nil) ⟨h2, h3, trivial⟩ 1 y hy
    omega
  · have := shortN_wt ks h3; omega
/-- A copy that plain makes. -/
structure Cp (w w' : World) (x : Nd) (ks : Fo) (A : Option Addr) (c : Nat) (ks' : Fo) : Prop where
  tr : ks'.tr = ks.tr
  sl : FoSl w'.heap.size w' A c ks'
  fr : Fr Nob w w'
theorem law_plain' (w : World) (x : Nd) (B : Option Addr) (d : Nat) (ks : Fo) (hsz : ks.tr.size ≤ 100000) (hs : FoSl w.heap.size w B d ks) :
    Calls Tryd.prog 10 #[fval x B ks.len d] w fun e w' => ∃ A c ks', e = .returned (fval x A (Fo.len ks') c) ∧ Cp w w' x ks A c ks' :=
  (law_plain ks.tr.size w.heap.size w x B d ks (Nat.le_refl _) hsz hs (Nat.le_refl _)).mono fun _ _ ⟨A, c, ks', h1, h2, h3, h4⟩ => ⟨A, c, ks', h1, h2, h3.sl (fun _ hk => hk.2), h4⟩
set_option maxRecDepth 100000 in
set_option maxHeartbeats 4000000 in
theorem law_FormulaShows (w : World) (x : Nd) (A : Option Addr) (c : Nat) (ks : Fo) (hs : FoSl w.heap.size w A c ks) (hx : NdOk x) (hk : ks.tr.ok) (hv : ShVar w) (ht : TbVar w) :
    Calls Tryd.prog 4 #[fval x A ks.len c] w fun e w' => e = .returned (.bool true) ∧ Fr Nob w w' := by
  have HAW := Lib.hid (fun W (hf : Fr Nob w W) => law_awake W (hv.fr hf) (ht.fr hf))
  have HLF := Lib.hid (fun W (hf : Fr Nob w W) => law_left 90 w.heap.size W x A c ks (by decide) (hs.fr hf))
  by_cases h0 : left1 x ks.tr 90 = 0
  · rw [h0] at HLF
    unfold fval at *
    clear hs hx hk hv ht h0
    have hfw : Fr Nob w w := Fr.refl _ _
    go_enter Tryd.func4, Tryd.ntmps4
    go_wp2_with (first | ((go_at_call 8); refine (HAW.out _ ((Fr.refl _ _).alloc _)).mono ?_; rintro e w1 ⟨rfl, hf1⟩; obtain ⟨q0, q1, q2, q3, q4, q5, q6⟩ := (Bx.of (x := x) (Blk.new w _ _)).fr hf1; replace hfw := ((Fr.refl Nob w).alloc _).call hf1 (fun _ h _ => h)) | ((go_at_call 9); refine (HLF.out _ hfw).mono ?_; rintro e w1 ⟨rfl, hf1⟩; replace hfw := hfw.call hf1 (fun _ h _ => h)))
    go_ret
    exact ⟨rfl, hfw⟩
  · have hfew := few_of (x := x) (ks := ks.tr) (n := 90) (by omega)
    have hpos : (0 : Int) < (left1 x ks.tr 90 : Nat) := by omega
    have HSH := Lib.hid (fun W (hf : Fr Nob w W) => prg_Show W x A c ks ((hs.fr hf).mono hf.size) (by have := hfew.size; omega) (hv.fr hf) (ht.fr hf) hx hk (by have := hfew.wt; omega) hfew.names)
    have HPL := Lib.hid (fun W (hf : Fr Nob w W) => law_plain' W x A c ks (by have := hfew.size; omega) ((hs.fr hf).mono hf.size))
    have HRS := Lib.hid (fun W W' (A' : Option Addr) (c' : Nat) (ks' : Fo) (h : Cp W W' x ks A' c' ks') => ref_Show W'.heap.size W' x A' c' ks' h.sl hx (by rw [h.tr]; exact hk) (by rw [h.tr]; have := hfew.wt; omega) (by rw [h.tr]; have := hfew.size; omega) (by rw [h.tr]; exact hfew.names))
    have HEQ := Lib.hid (fun W W' (A' : Option Addr) (c' : Nat) (ks' : Fo) (h : Cp W W' x ks A' c' ks') => (show showT x ks'.tr = showT x ks.tr by rw [h.tr]))
    generalize left1 x ks.tr 90 = n at *
    unfold fval at *
    clear hs hx hk hv ht h0 hfew
    have hfw : Fr Nob w w := Fr.refl _ _
    go_enter Tryd.func4, Tryd.ntmps4
    go_wp2_with (first | ((go_at_call 8); refine (HAW.out _ ((Fr.refl _ _).alloc _)).mono ?_; rintro e w1 ⟨rfl, hf1⟩; obtain ⟨q0, q1, q2, q3, q4, q5, q6⟩ := (Bx.of (x := x) (Blk.new w _ _)).fr hf1; replace hfw := ((Fr.refl Nob w).alloc _).call hf1 (fun _ h _ => h)) | ((go_at_call 9); refine (HLF.out _ hfw).mono ?_; rintro e w1 ⟨rfl, hf1⟩; replace hfw := hfw.call hf1 (fun _ h _ => h); replace q0 := hf1.cell q0 (fun e => e); replace q1 := hf1.cell q1 (fun e => e); replace q2 := hf1.cell q2 (fun e => e); replace q3 := hf1.cell q3 (fun e => e); replace q4 := hf1.cell q4 (fun e => e); replace q5 := hf1.cell q5 (fun e => e); replace q6 := hf1.cell q6 (fun e => e)))
    replace hfw := hfw.drew
    go_region_held3 (fun w' => w'.cell? ⟨w.heap.size, 0, none⟩ = some (.int .i64 x.op) ∧ w'.cell? ⟨w.heap.size, 1, none⟩ = some (.string x.name) ∧ w'.cell? ⟨w.heap.size, 2, none⟩ = some (.int .i64 x.cmp) ∧ w'.cell? ⟨w.heap.size, 3, none⟩ = some (.int .i64 x.val) ∧ w'.cell? ⟨w.heap.size, 4, none⟩ = some (.int .i64 x.lo) ∧ w'.cell? ⟨w.heap.size, 5, none⟩ = some (.int .i64 x.hi) ∧ w'.cell? ⟨w.heap.size, 6, none⟩ = some (.slice A ks.len c))
      (first | with_reducible exact cells7 hf2 (fun e => e) (by assumption) | go_keep)
      (first | ((go_at_call 19); refine (HSH.out _ hfw).mono ?_; rintro e w2 ⟨rfl, hf2⟩; replace hfw := hfw.call hf2 (fun _ h _ => h)) | ((go_at_call 10); refine (HPL.out _ hfw).mono ?_; rintro e w2 ⟨A2, c2, ks2, rfl, hcp⟩; have hf2 := hcp.fr; replace hfw := hfw.call hf2 (fun _ h _ => h); have HE2 := Lib.hid (HEQ.out _ _ _ _ _ hcp); have HR2 := Lib.hid (HRS.out _ _ _ _ _ hcp); rw [HE2.out] at HR2) | ((go_at_call 20); refine (HR2.out).mono ?_; rintro e w2 ⟨rfl, hf2⟩; replace hfw := hfw.call hf2 (fun _ h _ => h)))
    go_wp2_with fail
    go_ret
    exact ⟨rfl, hfw⟩
set_option maxRecDepth 100000 in
set_option maxHeartbeats 4000000 in
theorem law_FormulaChecks (w : World) (x : Nd) (A : Option Addr) (c : Nat) (ks : Fo) (hs : FoSl w.heap.size w A c ks) (hv : ShVar w) (ht : TbVar w) :
    Calls Tryd.prog 3 #[fval x A ks.len c] w fun e w' => e = .returned (.bool true) ∧ Fr Nob w w' := by
  have HAW := Lib.hid (fun W (hf : Fr Nob w W) => law_awake W (hv.fr hf) (ht.fr hf))
  have HLF := Lib.hid (fun W (hf : Fr Nob w W) => law_left 90 w.heap.size W x A c ks (by decide) (hs.fr hf))
  by_cases h0 : left1 x ks.tr 90 = 0
  · rw [h0] at HLF
    unfold fval at *
    clear hs hv ht h0
    have hfw : Fr Nob w w := Fr.refl _ _
    go_enter Tryd.func3, Tryd.ntmps3
    go_wp2_with (first | ((go_at_call 8); refine (HAW.out _ ((Fr.refl _ _).alloc _)).mono ?_; rintro e w1 ⟨rfl, hf1⟩; obtain ⟨q0, q1, q2, q3, q4, q5, q6⟩ := (Bx.of (x := x) (Blk.new w _ _)).fr hf1; replace hfw := ((Fr.refl Nob w).alloc _).call hf1 (fun _ h _ => h)) | ((go_at_call 9); refine (HLF.out _ hfw).mono ?_; rintro e w1 ⟨rfl, hf1⟩; replace hfw := hfw.call hf1 (fun _ h _ => h); replace q0 := hf1.cell q0 (fun e => e); replace q1 := hf1.cell q1 (fun e => e); replace q2 := hf1.cell q2 (fun e => e); replace q3 := hf1.cell q3 (fun e => e); replace q4 := hf1.cell q4 (fun e => e); replace q5 := hf1.cell q5 (fun e => e); replace q6 := hf1.cell q6 (fun e => e)))
    go_ret
    exact ⟨rfl, hfw⟩
  · have hfew := few_of (x := x) (ks := ks.tr) (n := 90) (by omega)
    have hpos : (0 : Int) < (left1 x ks.tr 90 : Nat) := by omega
    have h1 := hfew.size
    have HPL := Lib.hid (fun W (hf : Fr Nob w W) => law_plain' W x A c ks (by omega) ((hs.fr hf).mono hf.size))
    have H1 := Lib.hid (fun W (hf : Fr Nob w W) => prg_Size W x A c ks ((hs.fr hf).mono hf.size) (by omega))
    have H2 := Lib.hid (fun W (hf : Fr Nob w W) => prg_Deep W x A c ks ((hs.fr hf).mono hf.size) (by omega))
    have H3 := Lib.hid (fun W (hf : Fr Nob w W) => prg_Sound W x A c ks ((hs.fr hf).mono hf.size) (by omega) (hv.fr hf) hfew.names)
    have H4 := Lib.hid (fun W (hf : Fr Nob w W) => prg_Check W x A c ks ((hs.fr hf).mono hf.size) (by omega) (hv.fr hf) hfew.names)
    have HRR := Lib.hid (fun N W (A' : Option Addr) (c' : Nat) (ks' : Fo) (htr : ks'.tr = ks.tr) (hsl : FoSl N W A' c' ks') =>
      (show (Calls Tryd.prog 12 #[fval x A' ks'.len c'] W fun e w' => e = .returned (.int .i64 (ks.tr.size + 1 : Nat)) ∧ Fr Nob W w') ∧
          (Calls Tryd.prog 14 #[fval x A' ks'.len c'] W fun e w' => e = .returned (.int .i64 (ks.tr.deep + 1 : Nat)) ∧ Fr Nob W w') ∧
          (Calls Tryd.prog 16 #[fval x A' ks'.len c'] W fun e w' => e = .returned (.int .i64 (firstW ((Tr.cons x ks.tr .nil).nodes 1))) ∧ Fr Nob W w') ∧
          (Calls Tryd.prog 18 #[fval x A' ks'.len c'] W fun e w' => e = .returned (.int .i64 (checkT x ks.tr)) ∧ Fr Nob W w') by
        have hsz : ks'.tr.size ≤ 100000 := by rw [htr]; omega
        have hnm : ∀ y ∈ (Tr.cons x ks'.tr .nil).nodes 1, y.1.name.size ≤ 9223372036854775807 := by rw [htr]; exact hfew.names
        rw [← htr]
        exact ⟨ref_Size ks'.tr.size N W x A' c' ks' (Nat.le_refl _) hsz hsl, ref_Deep ks'.tr.size N W x A' c' ks' (Nat.le_refl _) hsz hsl, ref_First N W x A' c' ks' hsz hsl hnm, ref_Check N W x A' c' ks' hsz hsl hnm⟩))
    clear h1
    generalize left1 x ks.tr 90 = n at *
    generalize ks.tr.size + 1 = sz at *
    generalize ks.tr.deep + 1 = dp at *
    generalize firstW ((Tr.cons x ks.tr .nil).nodes 1) = fw at *
    generalize checkT x ks.tr = ck at *
    unfold fval at *
    clear hs hv ht h0 hfew
    have hfw : Fr Nob w w := Fr.refl _ _
    go_enter Tryd.func3, Tryd.ntmps3
    go_wp2_with (first | ((go_at_call 8); refine (HAW.out _ ((Fr.refl _ _).alloc _)).mono ?_; rintro e w1 ⟨rfl, hf1⟩; obtain ⟨q0, q1, q2, q3, q4, q5, q6⟩ := (Bx.of (x := x) (Blk.new w _ _)).fr hf1; replace hfw := ((Fr.refl Nob w).alloc _).call hf1 (fun _ h _ => h)) | ((go_at_call 9); refine (HLF.out _ hfw).mono ?_; rintro e w1 ⟨rfl, hf1⟩; replace hfw := hfw.call hf1 (fun _ h _ => h); replace q0 := hf1.cell q0 (fun e => e); replace q1 := hf1.cell q1 (fun e => e); replace q2 := hf1.cell q2 (fun e => e); replace q3 := hf1.cell q3 (fun e => e); replace q4 := hf1.cell q4 (fun e => e); replace q5 := hf1.cell q5 (fun e => e); replace q6 := hf1.cell q6 (fun e => e)) | ((go_at_call 10); refine (HPL.out _ hfw).mono ?_; rintro e w2 ⟨A2, c2, ks2, rfl, hcp⟩; have HCP := Lib.hid hcp; have hf1 := hcp.fr; replace hfw := hfw.call hf1 (fun _ h _ => h); replace q0 := hf1.cell q0 (fun e => e); replace q1 := hf1.cell q1 (fun e => e); replace q2 := hf1.cell q2 (fun e => e); replace q3 := hf1.cell q3 (fun e => e); replace q4 := hf1.cell q4 (fun e => e); replace q5 := hf1.cell q5 (fun e => e); replace q6 := hf1.cell q6 (fun e => e); clear hcp))
    obtain ⟨W4, hW4⟩ : ∃ W4, w2.alloc (.cells #[.int .i64 x.op, .string x.name, .int .i64 x.cmp, .int .i64 x.val, .int .i64 x.lo, .int .i64 x.hi, .slice A2 ks2.len c2] 33) = W4 := ⟨_, rfl⟩
    have hf4 : Fr Nob w2 W4 := by rw [← hW4]; exact (Fr.refl _ _).alloc _
    have hb4 : Bx W4 w2.heap.size x A2 ks2.len c2 := by rw [← hW4]; exact Bx.of (Blk.new _ _ _)
    rw [hW4]
    have HFW := Lib.hid (hfw.call hf4 (fun _ h _ => h))
    have HR := Lib.hid (fun W (hf : Fr Nob W4 W) => HRR.out _ W A2 c2 ks2 HCP.out.tr ((HCP.out.sl.fr hf4).fr hf))
    have k0 := cell_regrown (hf4.cell q0 (fun e => e))
    have k1 := cell_regrown (hf4.cell q1 (fun e => e))
    have k2 := cell_regrown (hf4.cell q2 (fun e => e))
    have k3 := cell_regrown (hf4.cell q3 (fun e => e))
    have k4 := cell_regrown (hf4.cell q4 (fun e => e))
    have k5 := cell_regrown (hf4.cell q5 (fun e => e))
    have k6 := cell_regrown (hf4.cell q6 (fun e => e))
    have l0 := cell_regrown hb4.h0
    have l1 := cell_regrown hb4.h1
    have l2 := cell_regrown hb4.h2
    have l3 := cell_regrown hb4.h3
    have l4 := cell_regrown hb4.h4
    have l5 := cell_regrown hb4.h5
    have l6 := cell_regrown hb4.h6
    have C1 := Lib.hid (regr fun W hf => H1.out W (HFW.out.call hf (fun _ h _ => h)))
    have C2 := Lib.hid (regr fun W hf => H2.out W (HFW.out.call hf (fun _ h _ => h)))
    have C3 := Lib.hid (regr fun W hf => H3.out W (HFW.out.call hf (fun _ h _ => h)))
    have C4 := Lib.hid (regr fun W hf => H4.out W (HFW.out.call hf (fun _ h _ => h)))
    have D1 := Lib.hid (regr fun W hf => (HR.out W hf).1)
    have D2 := Lib.hid (regr fun W hf => (HR.out W hf).2.1)
    have D3 := Lib.hid (regr fun W hf => (HR.out W hf).2.2.1)
    have D4 := Lib.hid (regr fun W hf => (HR.out W hf).2.2.2)
    clear q0 q1 q2 q3 q4 q5 q6 hfw hf1 hf4 hb4 hW4 HRR HCP HPL HLF HAW H1 H2 H3 H4 HR
    refine wp_region_quiet_below (by kernel_rfl) (by kernel_rfl) ?_
    repeat (go_big_quiet_step (first | exact C1.out _ _ | exact C2.out _ _ | exact C3.out _ _ | exact C4.out _ _ | exact D1.out _ _ | exact D2.out _ _ | exact D3.out _ _ | exact D4.out _ _))
    refine wpQuiet_nil ?_
    intro _ hw'
    obtain ⟨⟨dq, osq⟩, hw''⟩ := hw'
    subst hw''
    go_wp2_with fail
    go_ret
    exact ⟨rfl, HFW.out.call (Fr.of_below (S := Nob) (below_regrown W4 dq osq)) (fun _ h _ => h)⟩
end Go.Proofs.YtdiapojppmoghaaDoor
