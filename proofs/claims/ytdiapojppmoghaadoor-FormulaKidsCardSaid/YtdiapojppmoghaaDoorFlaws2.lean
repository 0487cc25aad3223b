/- FormulaKids. -/
import Derived.Test.YtdiapojppmoghaaDoorFlaws
namespace Go.Proofs.YtdiapojppmoghaaDoor
open Go.RowKit Go.Shelf Go.Sort

theorem get_good : ∀ {f : Fo} {k : Nat} {x : Nd} {A : Option Addr} {c : Nat} {ks rest : Fo}, f.get k = .cons x A c ks rest → f.tr.good → wrongN x ks.len = 0 ∧ ks.tr.good
  | .nil, _, _, _, _, _, _, h, _ => by simp [Fo.get] at h
  | .cons _ _ _ _ _, 0, _, _, _, _, _, h, h2 => by
    simp only [Fo.get, Fo.cons.injEq] at h
    obtain ⟨rfl, rfl, rfl, rfl, rfl⟩ := h
    simp only [Fo.tr, Tr.good, Fo.tr_len] at h2
    exact ⟨h2.1, h2.2.1⟩
  | .cons _ _ _ _ r, k + 1, _, _, _, _, _, h, h2 => by
    simp only [Fo.tr, Tr.good] at h2
    exact get_good (f := r) (k := k) h h2.2.2
theorem get_short : ∀ {f : Fo} {k : Nat} {x : Nd} {A : Option Addr} {c : Nat} {ks rest : Fo}, f.get k = .cons x A c ks rest → f.tr.shortN → x.name.size ≤ 40 ∧ ks.tr.shortN
  | .nil, _, _, _, _, _, _, h, _ => by simp [Fo.get] at h
  | .cons _ _ _ _ _, 0, _, _, _, _, _, h, h2 => by
    simp only [Fo.get, Fo.cons.injEq] at h
    obtain ⟨rfl, rfl, rfl, rfl, rfl⟩ := h
    simp only [Fo.tr, Tr.shortN] at h2
    exact ⟨h2.1, h2.2.1⟩
  | .cons _ _ _ _ r, k + 1, _, _, _, _, _, h, h2 => by
    simp only [Fo.tr, Tr.shortN] at h2
    exact get_short (f := r) (k := k) h h2.2.2
theorem get_deep : ∀ {f : Fo} {k : Nat} {x : Nd} {A : Option Addr} {c : Nat} {ks rest : Fo}, f.get k = .cons x A c ks rest → ks.tr.deep + 1 ≤ f.tr.deep
  | .nil, _, _, _, _, _, _, h => by simp [Fo.get] at h
  | .cons _ _ _ _ _, 0, _, _, _, _, _, h => by
    simp only [Fo.get, Fo.cons.injEq] at h
    obtain ⟨rfl, rfl, rfl, rfl, rfl⟩ := h
    simp only [Fo.tr, Tr.deep]; omega
  | .cons _ _ _ _ r, k + 1, _, _, _, _, _, h => by
    have := get_deep (f := r) (k := k) h
    simp only [Fo.tr, Tr.deep]; omega
theorem kid_first {x : Nd} {ks : Fo} {k : Nat} {y : Nd} {A : Option Addr} {c : Nat} {js rest : Fo} (hg : ks.get k = .cons y A c js rest) (h : firstW ((Tr.cons x ks.tr .nil).nodes 1) = 0) : firstW ((Tr.cons y js.tr .nil).nodes 1) = 0 := by
  have h1 := get_good hg ((good_first x ks.tr).1 h).2
  rw [good_first, Fo.tr_len]; exact h1
theorem check_zero {x : Nd} {ks : Tr} (h : checkT x ks = 0) : ks.size + 1 ≤ 48 ∧ ks.deep + 1 ≤ 12 ∧ firstW ((Tr.cons x ks .nil).nodes 1) = 0 := by
  unfold checkT at h
  split at h
  · omega
  · split at h
    · omega
    · exact ⟨by omega, by omega, h⟩
theorem kid_check {x : Nd} {ks : Fo} {k : Nat} {y : Nd} {A : Option Addr} {c : Nat} {js rest : Fo} (hg : ks.get k = .cons y A c js rest) (h : checkT x ks.tr = 0) : checkT y js.tr = 0 := by
  obtain ⟨h1, h2, h3⟩ := check_zero h
  have h4 := Fo.get_size hg
  have h5 := get_deep hg
  unfold checkT
  rw [if_neg (by omega), if_neg (by omega)]
  exact kid_first hg h3
/-- How far the kids have been gone through. -/
structure KdI (w wr : World) (x : Nd) (A : Option Addr) (c : Nat) (ks : Fo) (k v : Nat) : Prop where
  fr : Fr Nob w wr
  box : Blk wr w.heap.size 28 #[.int .i64 x.op, .string x.name, .int .i64 x.cmp, .int .i64 x.val, .int .i64 x.lo, .int .i64 x.hi, .slice A ks.len c]
  deep : max v (ks.get k).tr.deep = ks.tr.deep
  le : (ks.get k).tr.size ≤ ks.tr.size
set_option maxRecDepth 100000 in
set_option maxHeartbeats 8000000 in
theorem law_FormulaKids (w : World) (x : Nd) (A : Option Addr) (c : Nat) (ks : Fo) (hs : FoSl w.heap.size w A c ks) (hv : ShVar w) (ht : TbVar w) :
    Calls Tryd.prog 6 #[fval x A ks.len c] w fun e w' => e = .returned (.bool true) ∧ Fr Nob w w' := by
  have HAW := Lib.hid (fun W (hf : Fr Nob w W) => law_awake W (hv.fr hf) (ht.fr hf))
  have HLF := Lib.hid (fun W (hf : Fr Nob w W) => law_left 60 w.heap.size W x A c ks (by decide) (hs.fr hf))
  by_cases h0 : left1 x ks.tr 60 = 0
  · rw [h0] at HLF
    unfold fval at *
    clear hs hv ht h0
    have hfw : Fr Nob w w := Fr.refl _ _
    go_enter Tryd.func6, Tryd.ntmps6
    go_wp2_with (first | ((go_at_call 8); refine (HAW.out _ ((Fr.refl _ _).alloc _)).mono ?_; rintro e w1 ⟨rfl, hf1⟩; have hbk := (Blk.new w 28 #[.int .i64 x.op, .string x.name, .int .i64 x.cmp, .int .i64 x.val, .int .i64 x.lo, .int .i64 x.hi, .slice A ks.len c]).fr hf1 (fun e => e); obtain ⟨q0, q1, q2, q3, q4, q5, q6⟩ := Bx.of (x := x) hbk; replace hfw := ((Fr.refl Nob w).alloc _).call hf1 (fun _ h _ => h)) | ((go_at_call 9); refine (HLF.out _ hfw).mono ?_; rintro e w1 ⟨rfl, hf1⟩; replace hfw := hfw.call hf1 (fun _ h _ => h); replace q0 := hf1.cell q0 (fun e => e); replace q1 := hf1.cell q1 (fun e => e); replace q2 := hf1.cell q2 (fun e => e); replace q3 := hf1.cell q3 (fun e => e); replace q4 := hf1.cell q4 (fun e => e); replace q5 := hf1.cell q5 (fun e => e); replace q6 := hf1.cell q6 (fun e => e)))
    go_ret
    exact ⟨rfl, hfw⟩
  · have hfew := few_of (x := x) (ks := ks.tr) (n := 60) (by omega)
    have hsh := (left1_pos (x := x) (ks := ks.tr) (n := 60) (by omega)).2.2
    have hpos : (0 : Int) < (left1 x ks.tr 60 : Nat) := by omega
    have h1 := hfew.size
    have hln := ks.len_size
    have H1 := Lib.hid (fun W (hf : Fr Nob w W) => prg_Size W x A c ks ((hs.fr hf).mono hf.size) (by omega))
    have H2 := Lib.hid (fun W (hf : Fr Nob w W) => prg_Deep W x A c ks ((hs.fr hf).mono hf.size) (by omega))
    have H3 := Lib.hid (fun W (hf : Fr Nob w W) => prg_Sound W x A c ks ((hs.fr hf).mono hf.size) (by omega) (hv.fr hf) hfew.names)
    have H4 := Lib.hid (fun W (hf : Fr Nob w W) => prg_Check W x A c ks ((hs.fr hf).mono hf.size) (by omega) (hv.fr hf) hfew.names)
    have HS := Lib.hid hs
    have HV := Lib.hid hv
    have HSH := Lib.hid hsh
    have HSZ := Lib.hid h1
    generalize left1 x ks.tr 60 = n at *
    have hfw : Fr Nob w w := Fr.refl _ _
    unfold fval at *
    have hnd : decide (n = 0) = false := decide_eq_false (by omega)
    have hk60 : (ks.len : Int) ≤ 60 := by omega
    have hz60 : ks.tr.size ≤ 60 := by omega
    have hd60 : ks.tr.deep ≤ 60 := by have := ks.tr.deep_size; omega
    clear hs hv ht h0 hfew hsh h1
    go_enter Tryd.func6, Tryd.ntmps6
    go_wp2_with (first | ((go_at_call 8); refine (HAW.out _ ((Fr.refl _ _).alloc _)).mono ?_; rintro e w1 ⟨rfl, hf1⟩; have hbk := (Blk.new w 28 #[.int .i64 x.op, .string x.name, .int .i64 x.cmp, .int .i64 x.val, .int .i64 x.lo, .int .i64 x.hi, .slice A ks.len c]).fr hf1 (fun e => e); obtain ⟨q0, q1, q2, q3, q4, q5, q6⟩ := Bx.of (x := x) hbk; replace hfw := ((Fr.refl Nob w).alloc _).call hf1 (fun _ h _ => h)) | ((go_at_call 9); refine (HLF.out _ hfw).mono ?_; rintro e w1 ⟨rfl, hf1⟩; replace hfw := hfw.call hf1 (fun _ h _ => h); replace q0 := hf1.cell q0 (fun e => e); replace q1 := hf1.cell q1 (fun e => e); replace q2 := hf1.cell q2 (fun e => e); replace q3 := hf1.cell q3 (fun e => e); replace q4 := hf1.cell q4 (fun e => e); replace q5 := hf1.cell q5 (fun e => e); replace q6 := hf1.cell q6 (fun e => e)))
    have hbx : Blk w1 w.heap.size 28 #[.int .i64 x.op, .string x.name, .int .i64 x.cmp, .int .i64 x.val, .int .i64 x.lo, .int .i64 x.hi, .slice A ks.len c] := hbk.fr hf1 (fun e => e)
    have HI := Lib.hid (show KdI w w1 x A c ks 0 0 from ⟨hfw, hbx, by rw [Fo.get_zero]; omega, by rw [Fo.get_zero]; exact Nat.le_refl _⟩)
    have HZ := Lib.hid (show (1 : Int) = ((ks.tr.size - (ks.get 0).tr.size + 1 : Nat) : Int) by rw [Fo.get_zero, Nat.sub_self]; rfl)
    clear q0 q1 q2 q3 q4 q5 q6 hbx hbk hfw hf1 HAW HLF
    go_loopw [5, 6, 7] (fun s d i wr => ∃ k v : Nat, k ≤ ks.len ∧ i = .int .i64 k ∧ d = .int .i64 v ∧ v ≤ 60 ∧ s = .int .i64 ((ks.tr.size - (ks.get k).tr.size + 1 : Nat) : Int) ∧ Hid (KdI w wr x A c ks k v)) (fun _ _ i _ => ks.len - (intOf i).toNat)
    case atStart => exact ⟨0, 0, Nat.zero_le _, rfl, rfl, by omega, vint HZ.out, HI⟩
    case round =>
      clear HI HZ
      obtain ⟨k, v, hk, rfl, rfl, hv60, rfl, hi⟩ := hrel
      obtain ⟨q0, q1, q2, q3, q4, q5, q6⟩ := Bx.of (x := x) hi.out.box
      have hbl := Blk.lt hi.out.box
      have hfw := hi.out.fr
      by_cases hlt : k < ks.len
      · have hI : (k : Int) < ks.len := by omega
        have hI3 : 0 ≤ (k : Int) := by omega
        obtain ⟨b, off, y, B, d, js, rs, K⟩ := (HS.out.fr hi.out.fr).kid hlt
        obtain ⟨d0, d1, d2, d3, d4, d5, d6⟩ := K.nd
        obtain rfl := K.slice
        have hlt2 := K.lt
        have hg := K.get
        have hg2 := Fo.get_succ hg
        have hjs := K.size
        have hsy := get_short hg HSH.out
        have hny : ∀ z ∈ (Tr.cons y js.tr .nil).nodes 1, z.1.name.size ≤ 9223372036854775807 := fun z hz => by
          have := shortN_nodes (.cons y js.tr .nil) ⟨hsy.1, hsy.2, trivial⟩ 1 z hz
          omega
        have G1 := Lib.hid (fun W (hf : Fr Nob wr W) => prg_Size W y B d js ((K.sl.fr hf).mono (Nat.le_trans hi.out.fr.size hf.size)) (by omega))
        have G2 := Lib.hid (fun W (hf : Fr Nob wr W) => prg_Deep W y B d js ((K.sl.fr hf).mono (Nat.le_trans hi.out.fr.size hf.size)) (by omega))
        have G3 := Lib.hid (fun W (hf : Fr Nob wr W) => prg_Sound W y B d js ((K.sl.fr hf).mono (Nat.le_trans hi.out.fr.size hf.size)) (by omega) (HV.out.fr (hi.out.fr.call hf (fun _ h _ => h))) hny)
        have G4 := Lib.hid (fun W (hf : Fr Nob wr W) => prg_Check W y B d js ((K.sl.fr hf).mono (Nat.le_trans hi.out.fr.size hf.size)) (by omega) (HV.out.fr (hi.out.fr.call hf (fun _ h _ => h))) hny)
        have HGF := Lib.hid (fun h => kid_first (x := x) hg h)
        have HGC := Lib.hid (fun h => kid_check (x := x) hg h)
        have HSU := Lib.hid (show ks.tr.size - (ks.get k).tr.size + 1 + (js.tr.size + 1) = ks.tr.size - (ks.get (k + 1)).tr.size + 1 ∧ (ks.get (k + 1)).tr.size ≤ ks.tr.size by
          have h1 := hi.out.le
          rw [hg2]; rw [hg] at h1 ⊢; simp only [Fo.tr, Tr.size] at h1 ⊢; omega)
        have HDE := Lib.hid (show max (max v (js.tr.deep + 1)) (ks.get (k + 1)).tr.deep = ks.tr.deep ∧ js.tr.deep + 1 ≤ 60 by
          have h1 := hi.out.deep
          rw [hg2]; rw [hg] at h1; simp only [Fo.tr, Tr.deep] at h1 ⊢; omega)
        have hjd := HDE.out.2
        have HBX := Lib.hid hi.out.box
        have HFR := Lib.hid hi.out.fr
        have hsk : ks.tr.size - (ks.get k).tr.size + 1 ≤ 61 := by omega
        generalize ks.tr.size - (ks.get k).tr.size + 1 = su at *
        have hwr : Fr Nob wr wr := Fr.refl _ _
        unfold fval at *
        generalize hjz : js.tr.size + 1 = jz at *
        generalize hjdd : js.tr.deep + 1 = jd at *
        have hjz60 : jz ≤ 60 := by omega
        clear hg hg2 hsy hny hi K hjs hjz hjdd
        by_cases hfz : firstW ((Tr.cons x ks.tr .nil).nodes 1) = 0
        · rw [HGF.out hfz] at G3
          rw [hfz] at H3
          rw [show ((0 : Int) == 0) = true from rfl] at G3 H3
          by_cases hcz : checkT x ks.tr = 0
          · rw [HGC.out hcz] at G4
            rw [hcz] at H4
            clear hfz hcz HGF HGC
            go_wp2_with (first | ((go_at_call 11); with_reducible refine (G1.out _ hwr).mono ?_; rintro e w1 ⟨rfl, hf1⟩; replace hfw := hfw.call hf1 (fun _ h _ => h); replace hwr := hwr.call hf1 (fun _ h _ => h); replace q0 := hf1.cell q0 (fun e => e); replace q1 := hf1.cell q1 (fun e => e); replace q2 := hf1.cell q2 (fun e => e); replace q3 := hf1.cell q3 (fun e => e); replace q4 := hf1.cell q4 (fun e => e); replace q5 := hf1.cell q5 (fun e => e); replace q6 := hf1.cell q6 (fun e => e); replace d0 := hf1.cell d0 (fun e => e); replace d1 := hf1.cell d1 (fun e => e); replace d2 := hf1.cell d2 (fun e => e); replace d3 := hf1.cell d3 (fun e => e); replace d4 := hf1.cell d4 (fun e => e); replace d5 := hf1.cell d5 (fun e => e); replace d6 := hf1.cell d6 (fun e => e)) | ((go_at_call 13); with_reducible refine (G2.out _ hwr).mono ?_; rintro e w1 ⟨rfl, hf1⟩; replace hfw := hfw.call hf1 (fun _ h _ => h); replace hwr := hwr.call hf1 (fun _ h _ => h); replace q0 := hf1.cell q0 (fun e => e); replace q1 := hf1.cell q1 (fun e => e); replace q2 := hf1.cell q2 (fun e => e); replace q3 := hf1.cell q3 (fun e => e); replace q4 := hf1.cell q4 (fun e => e); replace q5 := hf1.cell q5 (fun e => e); replace q6 := hf1.cell q6 (fun e => e); replace d0 := hf1.cell d0 (fun e => e); replace d1 := hf1.cell d1 (fun e => e); replace d2 := hf1.cell d2 (fun e => e); replace d3 := hf1.cell d3 (fun e => e); replace d4 := hf1.cell d4 (fun e => e); replace d5 := hf1.cell d5 (fun e => e); replace d6 := hf1.cell d6 (fun e => e)) | ((go_at_call 17); with_reducible refine (H4.out _ hfw).mono ?_; rintro e w1 ⟨rfl, hf1⟩; replace hfw := hfw.call hf1 (fun _ h _ => h); replace hwr := hwr.call hf1 (fun _ h _ => h); replace q0 := hf1.cell q0 (fun e => e); replace q1 := hf1.cell q1 (fun e => e); replace q2 := hf1.cell q2 (fun e => e); replace q3 := hf1.cell q3 (fun e => e); replace q4 := hf1.cell q4 (fun e => e); replace q5 := hf1.cell q5 (fun e => e); replace q6 := hf1.cell q6 (fun e => e); replace d0 := hf1.cell d0 (fun e => e); replace d1 := hf1.cell d1 (fun e => e); replace d2 := hf1.cell d2 (fun e => e); replace d3 := hf1.cell d3 (fun e => e); replace d4 := hf1.cell d4 (fun e => e); replace d5 := hf1.cell d5 (fun e => e); replace d6 := hf1.cell d6 (fun e => e)) | ((go_at_call 17); with_reducible refine (G4.out _ hwr).mono ?_; rintro e w1 ⟨rfl, hf1⟩; replace hfw := hfw.call hf1 (fun _ h _ => h); replace hwr := hwr.call hf1 (fun _ h _ => h); replace q0 := hf1.cell q0 (fun e => e); replace q1 := hf1.cell q1 (fun e => e); replace q2 := hf1.cell q2 (fun e => e); replace q3 := hf1.cell q3 (fun e => e); replace q4 := hf1.cell q4 (fun e => e); replace q5 := hf1.cell q5 (fun e => e); replace q6 := hf1.cell q6 (fun e => e); replace d0 := hf1.cell d0 (fun e => e); replace d1 := hf1.cell d1 (fun e => e); replace d2 := hf1.cell d2 (fun e => e); replace d3 := hf1.cell d3 (fun e => e); replace d4 := hf1.cell d4 (fun e => e); replace d5 := hf1.cell d5 (fun e => e); replace d6 := hf1.cell d6 (fun e => e)) | ((go_at_call 15); with_reducible refine (H3.out _ hfw).mono ?_; rintro e w1 ⟨rfl, hf1⟩; replace hfw := hfw.call hf1 (fun _ h _ => h); replace hwr := hwr.call hf1 (fun _ h _ => h); replace q0 := hf1.cell q0 (fun e => e); replace q1 := hf1.cell q1 (fun e => e); replace q2 := hf1.cell q2 (fun e => e); replace q3 := hf1.cell q3 (fun e => e); replace q4 := hf1.cell q4 (fun e => e); replace q5 := hf1.cell q5 (fun e => e); replace q6 := hf1.cell q6 (fun e => e); replace d0 := hf1.cell d0 (fun e => e); replace d1 := hf1.cell d1 (fun e => e); replace d2 := hf1.cell d2 (fun e => e); replace d3 := hf1.cell d3 (fun e => e); replace d4 := hf1.cell d4 (fun e => e); replace d5 := hf1.cell d5 (fun e => e); replace d6 := hf1.cell d6 (fun e => e)) | ((go_at_call 15); with_reducible refine (G3.out _ hwr).mono ?_; rintro e w1 ⟨rfl, hf1⟩; replace hfw := hfw.call hf1 (fun _ h _ => h); replace hwr := hwr.call hf1 (fun _ h _ => h); replace q0 := hf1.cell q0 (fun e => e); replace q1 := hf1.cell q1 (fun e => e); replace q2 := hf1.cell q2 (fun e => e); replace q3 := hf1.cell q3 (fun e => e); replace q4 := hf1.cell q4 (fun e => e); replace q5 := hf1.cell q5 (fun e => e); replace q6 := hf1.cell q6 (fun e => e); replace d0 := hf1.cell d0 (fun e => e); replace d1 := hf1.cell d1 (fun e => e); replace d2 := hf1.cell d2 (fun e => e); replace d3 := hf1.cell d3 (fun e => e); replace d4 := hf1.cell d4 (fun e => e); replace d5 := hf1.cell d5 (fun e => e); replace d6 := hf1.cell d6 (fun e => e)))
            have HN := Lib.hid (show KdI w w1 x (some ⟨b, off, none⟩) c ks (k + 1) (max v jd) from ⟨hfw, HBX.out.fr hwr (fun e => e), by have := HDE.out.1; omega, HSU.out.2⟩)
            go_roundw
            case rel => exact ⟨k + 1, max v jd, by omega, by go_num, vint (by omega), by omega, vint (by have := HSU.out.1; omega), HN⟩
            case measure => simp [intOf]; omega
          · have hcb : (checkT x ks.tr == 0) = false := by simpa using hcz
            clear hfz hcz HGF HGC
            generalize checkT x ks.tr = ck at *
            go_wp2_with (first | ((go_at_call 11); with_reducible refine (G1.out _ hwr).mono ?_; rintro e w1 ⟨rfl, hf1⟩; replace hfw := hfw.call hf1 (fun _ h _ => h); replace hwr := hwr.call hf1 (fun _ h _ => h); replace q0 := hf1.cell q0 (fun e => e); replace q1 := hf1.cell q1 (fun e => e); replace q2 := hf1.cell q2 (fun e => e); replace q3 := hf1.cell q3 (fun e => e); replace q4 := hf1.cell q4 (fun e => e); replace q5 := hf1.cell q5 (fun e => e); replace q6 := hf1.cell q6 (fun e => e); replace d0 := hf1.cell d0 (fun e => e); replace d1 := hf1.cell d1 (fun e => e); replace d2 := hf1.cell d2 (fun e => e); replace d3 := hf1.cell d3 (fun e => e); replace d4 := hf1.cell d4 (fun e => e); replace d5 := hf1.cell d5 (fun e => e); replace d6 := hf1.cell d6 (fun e => e)) | ((go_at_call 13); with_reducible refine (G2.out _ hwr).mono ?_; rintro e w1 ⟨rfl, hf1⟩; replace hfw := hfw.call hf1 (fun _ h _ => h); replace hwr := hwr.call hf1 (fun _ h _ => h); replace q0 := hf1.cell q0 (fun e => e); replace q1 := hf1.cell q1 (fun e => e); replace q2 := hf1.cell q2 (fun e => e); replace q3 := hf1.cell q3 (fun e => e); replace q4 := hf1.cell q4 (fun e => e); replace q5 := hf1.cell q5 (fun e => e); replace q6 := hf1.cell q6 (fun e => e); replace d0 := hf1.cell d0 (fun e => e); replace d1 := hf1.cell d1 (fun e => e); replace d2 := hf1.cell d2 (fun e => e); replace d3 := hf1.cell d3 (fun e => e); replace d4 := hf1.cell d4 (fun e => e); replace d5 := hf1.cell d5 (fun e => e); replace d6 := hf1.cell d6 (fun e => e)) | ((go_at_call 17); with_reducible refine (H4.out _ hfw).mono ?_; rintro e w1 ⟨rfl, hf1⟩; replace hfw := hfw.call hf1 (fun _ h _ => h); replace hwr := hwr.call hf1 (fun _ h _ => h); replace q0 := hf1.cell q0 (fun e => e); replace q1 := hf1.cell q1 (fun e => e); replace q2 := hf1.cell q2 (fun e => e); replace q3 := hf1.cell q3 (fun e => e); replace q4 := hf1.cell q4 (fun e => e); replace q5 := hf1.cell q5 (fun e => e); replace q6 := hf1.cell q6 (fun e => e); replace d0 := hf1.cell d0 (fun e => e); replace d1 := hf1.cell d1 (fun e => e); replace d2 := hf1.cell d2 (fun e => e); replace d3 := hf1.cell d3 (fun e => e); replace d4 := hf1.cell d4 (fun e => e); replace d5 := hf1.cell d5 (fun e => e); replace d6 := hf1.cell d6 (fun e => e)) | ((go_at_call 17); with_reducible refine (G4.out _ hwr).mono ?_; rintro e w1 ⟨rfl, hf1⟩; replace hfw := hfw.call hf1 (fun _ h _ => h); replace hwr := hwr.call hf1 (fun _ h _ => h); replace q0 := hf1.cell q0 (fun e => e); replace q1 := hf1.cell q1 (fun e => e); replace q2 := hf1.cell q2 (fun e => e); replace q3 := hf1.cell q3 (fun e => e); replace q4 := hf1.cell q4 (fun e => e); replace q5 := hf1.cell q5 (fun e => e); replace q6 := hf1.cell q6 (fun e => e); replace d0 := hf1.cell d0 (fun e => e); replace d1 := hf1.cell d1 (fun e => e); replace d2 := hf1.cell d2 (fun e => e); replace d3 := hf1.cell d3 (fun e => e); replace d4 := hf1.cell d4 (fun e => e); replace d5 := hf1.cell d5 (fun e => e); replace d6 := hf1.cell d6 (fun e => e)) | ((go_at_call 15); with_reducible refine (H3.out _ hfw).mono ?_; rintro e w1 ⟨rfl, hf1⟩; replace hfw := hfw.call hf1 (fun _ h _ => h); replace hwr := hwr.call hf1 (fun _ h _ => h); replace q0 := hf1.cell q0 (fun e => e); replace q1 := hf1.cell q1 (fun e => e); replace q2 := hf1.cell q2 (fun e => e); replace q3 := hf1.cell q3 (fun e => e); replace q4 := hf1.cell q4 (fun e => e); replace q5 := hf1.cell q5 (fun e => e); replace q6 := hf1.cell q6 (fun e => e); replace d0 := hf1.cell d0 (fun e => e); replace d1 := hf1.cell d1 (fun e => e); replace d2 := hf1.cell d2 (fun e => e); replace d3 := hf1.cell d3 (fun e => e); replace d4 := hf1.cell d4 (fun e => e); replace d5 := hf1.cell d5 (fun e => e); replace d6 := hf1.cell d6 (fun e => e)) | ((go_at_call 15); with_reducible refine (G3.out _ hwr).mono ?_; rintro e w1 ⟨rfl, hf1⟩; replace hfw := hfw.call hf1 (fun _ h _ => h); replace hwr := hwr.call hf1 (fun _ h _ => h); replace q0 := hf1.cell q0 (fun e => e); replace q1 := hf1.cell q1 (fun e => e); replace q2 := hf1.cell q2 (fun e => e); replace q3 := hf1.cell q3 (fun e => e); replace q4 := hf1.cell q4 (fun e => e); replace q5 := hf1.cell q5 (fun e => e); replace q6 := hf1.cell q6 (fun e => e); replace d0 := hf1.cell d0 (fun e => e); replace d1 := hf1.cell d1 (fun e => e); replace d2 := hf1.cell d2 (fun e => e); replace d3 := hf1.cell d3 (fun e => e); replace d4 := hf1.cell d4 (fun e => e); replace d5 := hf1.cell d5 (fun e => e); replace d6 := hf1.cell d6 (fun e => e)))
            have HN := Lib.hid (show KdI w w1 x (some ⟨b, off, none⟩) c ks (k + 1) (max v jd) from ⟨hfw, HBX.out.fr hwr (fun e => e), by have := HDE.out.1; omega, HSU.out.2⟩)
            go_roundw
            case rel => exact ⟨k + 1, max v jd, by omega, by go_num, vint (by omega), by omega, vint (by have := HSU.out.1; omega), HN⟩
            case measure => simp [intOf]; omega
        · have hcz : ¬ checkT x ks.tr = 0 := fun h => hfz (check_zero h).2.2
          have hcb : (checkT x ks.tr == 0) = false := by simpa using hcz
          rw [show (firstW ((Tr.cons x ks.tr .nil).nodes 1) == 0) = false by simpa using hfz] at H3
          clear hfz hcz HGF HGC
          generalize checkT x ks.tr = ck at *
          go_wp2_with (first | ((go_at_call 11); with_reducible refine (G1.out _ hwr).mono ?_; rintro e w1 ⟨rfl, hf1⟩; replace hfw := hfw.call hf1 (fun _ h _ => h); replace hwr := hwr.call hf1 (fun _ h _ => h); replace q0 := hf1.cell q0 (fun e => e); replace q1 := hf1.cell q1 (fun e => e); replace q2 := hf1.cell q2 (fun e => e); replace q3 := hf1.cell q3 (fun e => e); replace q4 := hf1.cell q4 (fun e => e); replace q5 := hf1.cell q5 (fun e => e); replace q6 := hf1.cell q6 (fun e => e); replace d0 := hf1.cell d0 (fun e => e); replace d1 := hf1.cell d1 (fun e => e); replace d2 := hf1.cell d2 (fun e => e); replace d3 := hf1.cell d3 (fun e => e); replace d4 := hf1.cell d4 (fun e => e); replace d5 := hf1.cell d5 (fun e => e); replace d6 := hf1.cell d6 (fun e => e)) | ((go_at_call 13); with_reducible refine (G2.out _ hwr).mono ?_; rintro e w1 ⟨rfl, hf1⟩; replace hfw := hfw.call hf1 (fun _ h _ => h); replace hwr := hwr.call hf1 (fun _ h _ => h); replace q0 := hf1.cell q0 (fun e => e); replace q1 := hf1.cell q1 (fun e => e); replace q2 := hf1.cell q2 (fun e => e); replace q3 := hf1.cell q3 (fun e => e); replace q4 := hf1.cell q4 (fun e => e); replace q5 := hf1.cell q5 (fun e => e); replace q6 := hf1.cell q6 (fun e => e); replace d0 := hf1.cell d0 (fun e => e); replace d1 := hf1.cell d1 (fun e => e); replace d2 := hf1.cell d2 (fun e => e); replace d3 := hf1.cell d3 (fun e => e); replace d4 := hf1.cell d4 (fun e => e); replace d5 := hf1.cell d5 (fun e => e); replace d6 := hf1.cell d6 (fun e => e)) | ((go_at_call 17); with_reducible refine (H4.out _ hfw).mono ?_; rintro e w1 ⟨rfl, hf1⟩; replace hfw := hfw.call hf1 (fun _ h _ => h); replace hwr := hwr.call hf1 (fun _ h _ => h); replace q0 := hf1.cell q0 (fun e => e); replace q1 := hf1.cell q1 (fun e => e); replace q2 := hf1.cell q2 (fun e => e); replace q3 := hf1.cell q3 (fun e => e); replace q4 := hf1.cell q4 (fun e => e); replace q5 := hf1.cell q5 (fun e => e); replace q6 := hf1.cell q6 (fun e => e); replace d0 := hf1.cell d0 (fun e => e); replace d1 := hf1.cell d1 (fun e => e); replace d2 := hf1.cell d2 (fun e => e); replace d3 := hf1.cell d3 (fun e => e); replace d4 := hf1.cell d4 (fun e => e); replace d5 := hf1.cell d5 (fun e => e); replace d6 := hf1.cell d6 (fun e => e)) | ((go_at_call 17); with_reducible refine (G4.out _ hwr).mono ?_; rintro e w1 ⟨rfl, hf1⟩; replace hfw := hfw.call hf1 (fun _ h _ => h); replace hwr := hwr.call hf1 (fun _ h _ => h); replace q0 := hf1.cell q0 (fun e => e); replace q1 := hf1.cell q1 (fun e => e); replace q2 := hf1.cell q2 (fun e => e); replace q3 := hf1.cell q3 (fun e => e); replace q4 := hf1.cell q4 (fun e => e); replace q5 := hf1.cell q5 (fun e => e); replace q6 := hf1.cell q6 (fun e => e); replace d0 := hf1.cell d0 (fun e => e); replace d1 := hf1.cell d1 (fun e => e); replace d2 := hf1.cell d2 (fun e => e); replace d3 := hf1.cell d3 (fun e => e); replace d4 := hf1.cell d4 (fun e => e); replace d5 := hf1.cell d5 (fun e => e); replace d6 := hf1.cell d6 (fun e => e)) | ((go_at_call 15); with_reducible refine (H3.out _ hfw).mono ?_; rintro e w1 ⟨rfl, hf1⟩; replace hfw := hfw.call hf1 (fun _ h _ => h); replace hwr := hwr.call hf1 (fun _ h _ => h); replace q0 := hf1.cell q0 (fun e => e); replace q1 := hf1.cell q1 (fun e => e); replace q2 := hf1.cell q2 (fun e => e); replace q3 := hf1.cell q3 (fun e => e); replace q4 := hf1.cell q4 (fun e => e); replace q5 := hf1.cell q5 (fun e => e); replace q6 := hf1.cell q6 (fun e => e); replace d0 := hf1.cell d0 (fun e => e); replace d1 := hf1.cell d1 (fun e => e); replace d2 := hf1.cell d2 (fun e => e); replace d3 := hf1.cell d3 (fun e => e); replace d4 := hf1.cell d4 (fun e => e); replace d5 := hf1.cell d5 (fun e => e); replace d6 := hf1.cell d6 (fun e => e)) | ((go_at_call 15); with_reducible refine (G3.out _ hwr).mono ?_; rintro e w1 ⟨rfl, hf1⟩; replace hfw := hfw.call hf1 (fun _ h _ => h); replace hwr := hwr.call hf1 (fun _ h _ => h); replace q0 := hf1.cell q0 (fun e => e); replace q1 := hf1.cell q1 (fun e => e); replace q2 := hf1.cell q2 (fun e => e); replace q3 := hf1.cell q3 (fun e => e); replace q4 := hf1.cell q4 (fun e => e); replace q5 := hf1.cell q5 (fun e => e); replace q6 := hf1.cell q6 (fun e => e); replace d0 := hf1.cell d0 (fun e => e); replace d1 := hf1.cell d1 (fun e => e); replace d2 := hf1.cell d2 (fun e => e); replace d3 := hf1.cell d3 (fun e => e); replace d4 := hf1.cell d4 (fun e => e); replace d5 := hf1.cell d5 (fun e => e); replace d6 := hf1.cell d6 (fun e => e)))
          have HN := Lib.hid (show KdI w w1 x (some ⟨b, off, none⟩) c ks (k + 1) (max v jd) from ⟨hfw, HBX.out.fr hwr (fun e => e), by have := HDE.out.1; omega, HSU.out.2⟩)
          go_roundw
          case rel => exact ⟨k + 1, max v jd, by omega, by go_num, vint (by omega), by omega, vint (by have := HSU.out.1; omega), HN⟩
          case measure => simp [intOf]; omega
      · have hE := Fo.get_end (f := ks) (k := k) (by omega)
        obtain rfl : v = ks.tr.deep := by have h := hi.out.deep; rw [hE] at h; simpa [Fo.tr, Tr.deep] using h
        rw [show ks.tr.size - (ks.get k).tr.size + 1 = ks.tr.size + 1 by rw [hE]; rfl]
        clear hE hi
        generalize hjz : ks.tr.size + 1 = jz at *
        have hdd : ks.tr.deep ≤ 60 := hd60
        generalize hjd : ks.tr.deep = jd at *
        have hjz60 : jz ≤ 61 := by omega
        clear hjz hjd
        go_wp2_with (first | ((go_at_call 11); refine (H1.out _ hfw).mono ?_; rintro e w1 ⟨rfl, hf1⟩; replace hfw := hfw.call hf1 (fun _ h _ => h); replace q0 := hf1.cell q0 (fun e => e); replace q1 := hf1.cell q1 (fun e => e); replace q2 := hf1.cell q2 (fun e => e); replace q3 := hf1.cell q3 (fun e => e); replace q4 := hf1.cell q4 (fun e => e); replace q5 := hf1.cell q5 (fun e => e); replace q6 := hf1.cell q6 (fun e => e)) | ((go_at_call 13); refine (H2.out _ hfw).mono ?_; rintro e w1 ⟨rfl, hf1⟩; replace hfw := hfw.call hf1 (fun _ h _ => h); replace q0 := hf1.cell q0 (fun e => e); replace q1 := hf1.cell q1 (fun e => e); replace q2 := hf1.cell q2 (fun e => e); replace q3 := hf1.cell q3 (fun e => e); replace q4 := hf1.cell q4 (fun e => e); replace q5 := hf1.cell q5 (fun e => e); replace q6 := hf1.cell q6 (fun e => e)))
        go_ret
        exact ⟨rfl, hfw⟩
end Go.Proofs.YtdiapojppmoghaaDoor
