/- formula.Check. -/
import Derived.Test.YtoegdmpmagbaiaaGreatDoorKB
namespace Go.Proofs.YtoegdmpmagbaiaaGreatDoor
open Go.RowKit Go.Shelf
attribute [local go_sem] Oper.semAt_some

/-- What is wrong with a formula. -/
def checkT (x : Nd) (ks : Tr) : Int := if 48 < ks.size + 1 then 23 else if 12 < ks.deep + 1 then 22 else firstW ((Tr.cons x ks .nil).nodes 1)
/-- What Check's own variables hold. -/
structure CkI (B : Nat) (pre : List Vis) (W : World) : Prop where
  res : Blk W (B + 1) 34 #[.int .i64 0]
  many : Blk W (B + 2) 3 #[.int .i64 (pre.length : Nat)]
  most : Blk W (B + 3) 3 #[.int .i64 (maxD 0 (pre.map ndOf) : Nat)]
  first : Blk W (B + 4) 34 #[.int .i64 (firstW (pre.map ndOf))]
  le : pre.length ≤ 48
theorem CkI.far {B C : Nat} (h : B + 5 ≤ C) : Far C (CkI B) := fun pre W W' row hs hg hr =>
  have f : ∀ {k : Nat} {o : Obj}, k < C → W.heap[k]? = some o → W'.heap[k]? = some o := fun hk ho => (hg.block _ (Array.getElem?_eq_some_iff.1 ho).1 (fun e => by have := hr _ e.symm; omega)).trans ho
  ⟨f (by omega) hs.res, f (by omega) hs.many, f (by omega) hs.most, f (by omega) hs.first, hs.le⟩
set_option maxRecDepth 100000 in
set_option maxHeartbeats 8000000 in
theorem prg_Check (w : World) (x : Nd) (A : Option Addr) (c : Nat) (ks : Fo) (hs : FoSl w.heap.size w A c ks) (hsz : ks.tr.size ≤ 100000) (hv : ShVar w) (hnm : ∀ y ∈ (Tr.cons x ks.tr .nil).nodes 1, y.1.name.size ≤ 9223372036854775807) :
    Calls Tryz.prog 63 #[fval x A ks.len c] w fun e w' => e = .returned (.int .i64 (checkT x ks.tr)) ∧ Fr Nob w w' := by
  have HS := Lib.hid hs
  have HV := Lib.hid hv
  have HN := Lib.hid hnm
  clear hs hv hnm
  unfold fval
  refine (callsIn_wide (n := 3)).1 ?_
  refine callsIn_of_wp_marks Tryz.func63 rfl trivial ?_ rfl
  simp only [Tryz.ntmps63, List.size_toArray, List.length_cons, List.length_nil, Nat.reduceAdd, Nat.reduceSub, Array.replicate_succ, Array.replicate_zero, List.push_toArray, List.append_toArray, List.nil_append, List.cons_append]
  gi_wp2_with (refine ⟨trivial, ?_⟩; gi_at_call 84; refine (prg_each _ _).mono ?_; rintro e w' ⟨rfl, rfl⟩)
  have hT := (box_at (x := x) HS.out 28)
  generalize hw1 : w.alloc (.cells #[.int .i64 x.op, .string x.name, .int .i64 x.cmp, .int .i64 x.val, .int .i64 x.lo, .int .i64 x.hi, .slice A ks.len c] 28) = w1 at *
  have hz1 : w1.heap.size = w.heap.size + 1 := by rw [← hw1]; simp
  have hB1 : Below w.heap.size w w1 := by rw [← hw1]; exact (Below.refl _ _).alloc (Nat.le_refl _) _
  have HB1 := Lib.hid hB1
  have HT := Lib.hid hT
  clear hT hw1 hB1
  generalize hw0 : ((((w1.alloc (.cells #[.int .i64 0] 34)).alloc (.cells #[.int .i64 0] 3)).alloc (.cells #[.int .i64 0] 3)).alloc (.cells #[.int .i64 0] 34)).alloc (.cells #[.pointer (some ⟨w.heap.size, 0, none⟩)] 123) = w0 at *
  have hz0 : w0.heap.size = w.heap.size + 6 := by rw [← hw0]; simp [hz1]
  have hF : Fr Nob w1 w0 := by rw [← hw0]; exact (((((Fr.refl _ _).alloc _).alloc _).alloc _).alloc _).alloc _
  have b0 : CkI w.heap.size [] w0 := by
    rw [← hw0]
    exact ⟨((((Blk.new_eq hz1.symm).alloc _).alloc _).alloc _).alloc _, (((Blk.new_eq (by simp [hz1])).alloc _).alloc _).alloc _, ((Blk.new_eq (by simp [hz1])).alloc _).alloc _, (Blk.new_eq (by simp [hz1])).alloc _, by simp⟩
  have b2 : Blk w0 (w.heap.size + 5) 123 #[.pointer (some ⟨w.heap.size, 0, none⟩)] := by rw [← hw0]; exact Blk.new_eq (by simp [hz1])
  have HE := Lib.hid (each_far (3 - 1) (w.heap.size + 1) (w.heap.size + 5) (fun k => w.heap.size + 1 ≤ k ∧ k ≤ w.heap.size + 4) (fun k hk => ⟨by omega, by omega⟩) w0 (fun k hk => by omega) w.heap.size 0 x A c ks (b2.cell 0) (HT.out.fr hF) (by omega) hsz)
  have HZ := Lib.hid hz0
  have HB0 := Lib.hid (show Below (w.heap.size + 1) w1 w0 from hF.below.mono (by omega))
  have HZ1 := Lib.hid hz1
  have HK := Lib.hid b0
  clear hw0 hz1 hF b0 b2 hz0
  refine range_far rfl (by decide) (gf := 129) (lb := #[.pointer (some ⟨w.heap.size + 5, 0, none⟩)]) rfl trivial (enters_of Tryz.func129 (by kernel_rfl) rfl) HE.out (Below.refl _ _) (fun _ => rfl)
    (fun pre W => CkI w.heap.size pre W ∧ Below (w.heap.size + 1) w1 W) (fun c pre W => c = .ret ∧ (Blk W (w.heap.size + 1) 34 #[.int .i64 23] ∧ 48 < pre.length) ∧ Below (w.heap.size + 1) w1 W)
    ((CkI.far (by rw [HZ.out]; omega)).and (far_below (by rw [HZ1.out]; exact Nat.le_refl _) (by rw [HZ.out]; omega))) (fun _ => far_pure.and (((Blk.far_ (by rw [HZ.out]; omega)).and far_pure).and (far_below (by rw [HZ1.out]; exact Nat.le_refl _) (by rw [HZ.out]; omega)))) ⟨HK.out, HB0.out⟩
    (fun v => { tmps := #[.agg #[.int .i64 x.op, .string x.name, .int .i64 x.cmp, .int .i64 x.val, .int .i64 x.lo, .int .i64 x.hi, .slice A ks.len c], .pointer (some ⟨w.heap.size, 0, none⟩), .pointer (some ⟨w.heap.size + 1, 0, none⟩), .pointer (some ⟨w.heap.size + 2, 0, none⟩), .pointer (some ⟨w.heap.size + 3, 0, none⟩), .pointer (some ⟨w.heap.size + 4, 0, none⟩), .pointer (some ⟨v.b, v.off, none⟩), .int .i64 v.d, .func (.func 129) #[] #[.pointer (some ⟨w.heap.size + 5, 0, none⟩)], .pointer (some ⟨v.b, v.off, none⟩), .int .i64 v.d, undef, undef, undef, undef, undef, undef, undef, undef, undef, undef, undef, undef, undef, undef], defers := [] }) ?assign ?body ?done ?stop
  case assign =>
    intro l v W K hK
    gi_wp2
    simpa [visEnc] using hK
  case body =>
    rintro l pre v W ⟨hb, hB⟩ hpre
    have hmx := maxD_snoc 0 (pre.map ndOf) (ndOf v)
    have hfx := firstW_snoc (pre.map ndOf) (ndOf v)
    rw [show pre.map ndOf ++ [ndOf v] = (pre ++ [v]).map ndOf by simp] at hmx hfx
    rw [show (ndOf v).2.2 = v.d from rfl] at hmx
    rw [show wrongN (ndOf v).1 (ndOf v).2.1 = wrongN v.x v.n from rfl] at hfx
    have hmem : v ∈ (Fo.cons x A c ks .nil).vis w.heap.size 0 1 := hpre.subset (by simp)
    have hsn := HN.out (ndOf v) (by rw [← vis_root x A c ks w.heap.size 0]; exact List.mem_map_of_mem hmem)
    have hat := (Fo.vis_at (HT.out.keep (fun k hk _ => hB.block k hk)) v hmem).1
    have hbs := hB.size
    rw [HZ1.out] at hbs
    have HW := Lib.hid (fun W' (h : Below (w.heap.size + 1) W W') => prg_wrong W' v.b v.off v.x v.A v.n v.c (HV.out.below (HB1.out.trans ((hB.trans h).mono (by omega))) (Nat.le_refl _)) hsn (Fo.vis_at (HT.out.keep (fun k hk _ => (hB.trans h).block k hk)) v hmem).1)
    have hle := hb.le
    have r1 := Lib.hid hb.res
    have r2 := Lib.hid hb.many
    have r3 := Lib.hid hb.most
    have r4 := Lib.hid hb.first
    have c1 : W.cell? ⟨w.heap.size + 1, 0, none⟩ = some (.int .i64 0) := hb.res.cell 0
    have c2 : W.cell? ⟨w.heap.size + 2, 0, none⟩ = some (.int .i64 (pre.length : Nat)) := hb.many.cell 0
    have c3 : W.cell? ⟨w.heap.size + 3, 0, none⟩ = some (.int .i64 (maxD 0 (pre.map ndOf) : Nat)) := hb.most.cell 0
    have c4 : W.cell? ⟨w.heap.size + 4, 0, none⟩ = some (.int .i64 (firstW (pre.map ndOf))) := hb.first.cell 0
    have f1 := hb.res.frozen 0
    have f2 := hb.many.frozen 0
    have f3 := hb.most.frozen 0
    have f4 := hb.first.frozen 0
    have HBB := Lib.hid hB
    have HM := Lib.hid hmx
    have HX := Lib.hid hfx
    clear hb hB hpre hmx hfx hsn hat hmem
    generalize maxD 0 (pre.map ndOf) = a at *
    generalize firstW (pre.map ndOf) = e at *
    generalize wrongN v.x v.n = u at *
    by_cases hq : pre.length = 48
    · rw [hq] at c2
      have HQ := Lib.hid hq
      clear hq
      gi_wp2
      exact ⟨(KeepsOthers.setCell _ _ _).trans (KeepsOthers.setCell _ _ _), rfl, ⟨(r1.out.far (p := ⟨w.heap.size + 2, 0, none⟩) (by simp) _).set 0 (.int .i64 23), by rw [List.length_append, HQ.out]; simp⟩, (HBB.out.setCell (p := ⟨w.heap.size + 2, 0, none⟩) (by simp) _).setCell (p := ⟨w.heap.size + 1, 0, none⟩) (by simp) _⟩
    · have hq' : (pre.length : Int) < 48 := by omega
      clear hq
      by_cases hlt : v.d ≤ a
      · have hI : (v.d : Int) ≤ a := by omega
        rw [Nat.max_eq_left hlt] at HM
        clear hlt
        have HB2 := Lib.hid (show Below (w.heap.size + 1) W ((W.setCell ⟨w.heap.size + 2, 0, none⟩ (.int .i64 ((pre.length : Int) + 1))).setCell ⟨w.heap.size + 3, 0, none⟩ (.int .i64 (a : Nat))) from ((Below.refl _ _).setCell (p := ⟨w.heap.size + 2, 0, none⟩) (by simp) _).setCell (p := ⟨w.heap.size + 3, 0, none⟩) (by simp) _)
        have HKP := Lib.hid (show KpS (fun k => w.heap.size + 1 ≤ k ∧ k ≤ w.heap.size + 4) W ((W.setCell ⟨w.heap.size + 2, 0, none⟩ (.int .i64 ((pre.length : Int) + 1))).setCell ⟨w.heap.size + 3, 0, none⟩ (.int .i64 (a : Nat))) from KpS.fr (((Fr.refl (fun k => w.heap.size + 1 ≤ k ∧ k ≤ w.heap.size + 4) W).setCell (p := ⟨w.heap.size + 2, 0, none⟩) (fun _ => ⟨by simp, by simp⟩) _).setCell (p := ⟨w.heap.size + 3, 0, none⟩) (fun _ => ⟨by simp, by simp⟩) _))
        have HKO := Lib.hid (show KeepsOthers W ((W.setCell ⟨w.heap.size + 2, 0, none⟩ (.int .i64 ((pre.length : Int) + 1))).setCell ⟨w.heap.size + 3, 0, none⟩ (.int .i64 (a : Nat))) from (KeepsOthers.setCell _ _ _).trans (KeepsOthers.setCell _ _ _))
        have B1 := Lib.hid ((r1.out.far (p := ⟨w.heap.size + 2, 0, none⟩) (by simp) (.int .i64 ((pre.length : Int) + 1))).far (p := ⟨w.heap.size + 3, 0, none⟩) (by simp) (.int .i64 (a : Nat)))
        have B2 := Lib.hid (show Blk ((W.setCell ⟨w.heap.size + 2, 0, none⟩ (.int .i64 ((pre.length : Int) + 1))).setCell ⟨w.heap.size + 3, 0, none⟩ (.int .i64 (a : Nat))) (w.heap.size + 2) 3 #[.int .i64 ((pre ++ [v]).length : Nat)] by
          have h := (r2.out.set 0 (.int .i64 ((pre.length : Int) + 1))).far (p := ⟨w.heap.size + 3, 0, none⟩) (by simp) (.int .i64 (a : Nat))
          simpa using h)
        have B3 := Lib.hid ((r3.out.far (p := ⟨w.heap.size + 2, 0, none⟩) (by simp) (.int .i64 ((pre.length : Int) + 1))).set 0 (.int .i64 (a : Nat)))
        have B4 := Lib.hid ((r4.out.far (p := ⟨w.heap.size + 2, 0, none⟩) (by simp) (.int .i64 ((pre.length : Int) + 1))).far (p := ⟨w.heap.size + 3, 0, none⟩) (by simp) (.int .i64 (a : Nat)))
        have HLE := Lib.hid (show (pre ++ [v]).length ≤ 48 by simp; omega)
        by_cases he : e = 0
        · subst he
          rw [if_pos rfl] at HX
          gi_wp2_with (refine ⟨trivial, ?_⟩; gi_at_call 85; refine (CallsIn.inRound l ((callsIn_wide (n := 0)).2 (HW.out _ HB2.out))).mono ?_; rintro e w' ⟨rfl, hf⟩; have c4' : w'.cell? ⟨w.heap.size + 4, 0, none⟩ = some (.int .i64 0) := (B4.out.fr hf (fun e => e)).cell 0; have f4' := (B4.out.fr hf (fun e => e)).frozen 0)
          exact ⟨(HKO.out.trans (Fr.others hf)).trans (KeepsOthers.setCell _ _ _), (HKP.out.trans (KpS.fr (hf.mono (fun _ _ h => h.elim)))).trans (KpS.fr ((Fr.refl (fun k => w.heap.size + 1 ≤ k ∧ k ≤ w.heap.size + 4) _).setCell (p := ⟨w.heap.size + 4, 0, none⟩) (fun _ => ⟨by simp, by simp⟩) _)),
            ⟨(B1.out.fr hf (fun e => e)).far (by simp) _, (B2.out.fr hf (fun e => e)).far (by simp) _, by rw [HM.out]; exact (B3.out.fr hf (fun e => e)).far (by simp) _, by rw [HX.out]; exact (B4.out.fr hf (fun e => e)).set 0 (.int .i64 u), HLE.out⟩,
            ((HBB.out.trans HB2.out).trans (hf.below.mono (by simp; exact hbs))).setCell (p := ⟨w.heap.size + 4, 0, none⟩) (by simp) _⟩
        · have he' : (e == 0) = false := by simpa using he
          rw [if_neg he] at HX
          clear he
          gi_wp2
          exact ⟨HKO.out, HKP.out, ⟨B1.out, B2.out, by rw [HM.out]; exact B3.out, by rw [HX.out]; exact B4.out, HLE.out⟩, HBB.out.trans HB2.out⟩
      · have hI : (a : Int) < v.d := by omega
        rw [Nat.max_eq_right (by omega)] at HM
        clear hlt
        have HB2 := Lib.hid (show Below (w.heap.size + 1) W ((W.setCell ⟨w.heap.size + 2, 0, none⟩ (.int .i64 ((pre.length : Int) + 1))).setCell ⟨w.heap.size + 3, 0, none⟩ (.int .i64 (v.d : Nat))) from ((Below.refl _ _).setCell (p := ⟨w.heap.size + 2, 0, none⟩) (by simp) _).setCell (p := ⟨w.heap.size + 3, 0, none⟩) (by simp) _)
        have HKP := Lib.hid (show KpS (fun k => w.heap.size + 1 ≤ k ∧ k ≤ w.heap.size + 4) W ((W.setCell ⟨w.heap.size + 2, 0, none⟩ (.int .i64 ((pre.length : Int) + 1))).setCell ⟨w.heap.size + 3, 0, none⟩ (.int .i64 (v.d : Nat))) from KpS.fr (((Fr.refl (fun k => w.heap.size + 1 ≤ k ∧ k ≤ w.heap.size + 4) W).setCell (p := ⟨w.heap.size + 2, 0, none⟩) (fun _ => ⟨by simp, by simp⟩) _).setCell (p := ⟨w.heap.size + 3, 0, none⟩) (fun _ => ⟨by simp, by simp⟩) _))
        have HKO := Lib.hid (show KeepsOthers W ((W.setCell ⟨w.heap.size + 2, 0, none⟩ (.int .i64 ((pre.length : Int) + 1))).setCell ⟨w.heap.size + 3, 0, none⟩ (.int .i64 (v.d : Nat))) from (KeepsOthers.setCell _ _ _).trans (KeepsOthers.setCell _ _ _))
        have B1 := Lib.hid ((r1.out.far (p := ⟨w.heap.size + 2, 0, none⟩) (by simp) (.int .i64 ((pre.length : Int) + 1))).far (p := ⟨w.heap.size + 3, 0, none⟩) (by simp) (.int .i64 (v.d : Nat)))
        have B2 := Lib.hid (show Blk ((W.setCell ⟨w.heap.size + 2, 0, none⟩ (.int .i64 ((pre.length : Int) + 1))).setCell ⟨w.heap.size + 3, 0, none⟩ (.int .i64 (v.d : Nat))) (w.heap.size + 2) 3 #[.int .i64 ((pre ++ [v]).length : Nat)] by
          have h := (r2.out.set 0 (.int .i64 ((pre.length : Int) + 1))).far (p := ⟨w.heap.size + 3, 0, none⟩) (by simp) (.int .i64 (v.d : Nat))
          simpa using h)
        have B3 := Lib.hid ((r3.out.far (p := ⟨w.heap.size + 2, 0, none⟩) (by simp) (.int .i64 ((pre.length : Int) + 1))).set 0 (.int .i64 (v.d : Nat)))
        have B4 := Lib.hid ((r4.out.far (p := ⟨w.heap.size + 2, 0, none⟩) (by simp) (.int .i64 ((pre.length : Int) + 1))).far (p := ⟨w.heap.size + 3, 0, none⟩) (by simp) (.int .i64 (v.d : Nat)))
        have HLE := Lib.hid (show (pre ++ [v]).length ≤ 48 by simp; omega)
        by_cases he : e = 0
        · subst he
          rw [if_pos rfl] at HX
          gi_wp2_with (refine ⟨trivial, ?_⟩; gi_at_call 85; refine (CallsIn.inRound l ((callsIn_wide (n := 0)).2 (HW.out _ HB2.out))).mono ?_; rintro e w' ⟨rfl, hf⟩; have c4' : w'.cell? ⟨w.heap.size + 4, 0, none⟩ = some (.int .i64 0) := (B4.out.fr hf (fun e => e)).cell 0; have f4' := (B4.out.fr hf (fun e => e)).frozen 0)
          exact ⟨(HKO.out.trans (Fr.others hf)).trans (KeepsOthers.setCell _ _ _), (HKP.out.trans (KpS.fr (hf.mono (fun _ _ h => h.elim)))).trans (KpS.fr ((Fr.refl (fun k => w.heap.size + 1 ≤ k ∧ k ≤ w.heap.size + 4) _).setCell (p := ⟨w.heap.size + 4, 0, none⟩) (fun _ => ⟨by simp, by simp⟩) _)),
            ⟨(B1.out.fr hf (fun e => e)).far (by simp) _, (B2.out.fr hf (fun e => e)).far (by simp) _, by rw [HM.out]; exact (B3.out.fr hf (fun e => e)).far (by simp) _, by rw [HX.out]; exact (B4.out.fr hf (fun e => e)).set 0 (.int .i64 u), HLE.out⟩,
            ((HBB.out.trans HB2.out).trans (hf.below.mono (by simp; exact hbs))).setCell (p := ⟨w.heap.size + 4, 0, none⟩) (by simp) _⟩
        · have he' : (e == 0) = false := by simpa using he
          rw [if_neg he] at HX
          clear he
          gi_wp2
          exact ⟨HKO.out, HKP.out, ⟨B1.out, B2.out, by rw [HM.out]; exact B3.out, by rw [HX.out]; exact B4.out, HLE.out⟩, HBB.out.trans HB2.out⟩
  case done =>
    rintro D W hD ⟨hb, hB⟩ hK
    have hle := hb.le
    have hm := hb.most
    have hf := hb.first
    rw [vis_root, maxD_tree] at hm
    rw [vis_root] at hf
    rw [Fo.vis_len, show (Fo.cons x A c ks .nil).tr.size = ks.tr.size + 1 by simp [Fo.tr, Tr.size]] at hle
    rw [HZ.out] at hD
    have HR := Lib.hid (show checkT x ks.tr = if 12 < ks.tr.deep + 1 then 22 else firstW ((Tr.cons x ks.tr .nil).nodes 1) by unfold checkT; rw [if_neg (by omega)])
    have f1 := hb.res.frozen 0
    have c1 : W.cell? ⟨w.heap.size + 1, 0, none⟩ = some (.int .i64 0) := hb.res.cell 0
    have c3 : W.cell? ⟨w.heap.size + 3, 0, none⟩ = some (.int .i64 ((ks.tr.deep + 1 : Nat) : Int)) := hm.cell 0
    have c4 : W.cell? ⟨w.heap.size + 4, 0, none⟩ = some (.int .i64 (firstW ((Tr.cons x ks.tr .nil).nodes 1))) := hf.cell 0
    clear hb hm hf
    by_cases hd : 12 < ks.tr.deep + 1
    · have hdI : (12 : Int) < ((ks.tr.deep + 1 : Nat) : Int) := by omega
      rw [if_pos hd] at HR
      generalize ks.tr.deep + 1 = dd at *
      clear hd
      gi_wp2
      have hK' := (KeepsOthers.setCell W ⟨w.heap.size + 1, 0, none⟩ (.int .i64 22)).same D _ hK rfl
      refine ⟨by simp, .inl ⟨_, _, rfl, run_takeDeferred hK', ?_⟩⟩
      have hc5 := cell_kept (World.cell?_setCell_same' W ⟨w.heap.size + 1, 0, none⟩ (.int .i64 22) (by rw [c1]; rfl)) (grownBy_putObj' _ D (.deferred none)) (fun r e => by cases e; exact ⟨_, hK', rfl⟩)
      refine ⟨(.int .i64 22), ?_, by rw [HR.out], Fr.of_below (((HB1.out.trans (hB.mono (by omega))).setCell (p := ⟨w.heap.size + 1, 0, none⟩) (by simp) _).trans (belowK_b (w := w) (Nat.le_refl _) _ D _ _ (by omega) hK' rfl rfl))⟩
      simp [results, Tryz.f63, go_sem, hc5]
    · have hdI : ((ks.tr.deep + 1 : Nat) : Int) ≤ 12 := by omega
      rw [if_neg hd] at HR
      generalize ks.tr.deep + 1 = dd at *
      clear hd
      generalize firstW ((Tr.cons x ks.tr .nil).nodes 1) = fw at *
      gi_wp2
      have hK' := (KeepsOthers.setCell W ⟨w.heap.size + 1, 0, none⟩ (.int .i64 fw)).same D _ hK rfl
      refine ⟨by simp, .inl ⟨_, _, rfl, run_takeDeferred hK', ?_⟩⟩
      have hc5 := cell_kept (World.cell?_setCell_same' W ⟨w.heap.size + 1, 0, none⟩ (.int .i64 fw) (by rw [c1]; rfl)) (grownBy_putObj' _ D (.deferred none)) (fun r e => by cases e; exact ⟨_, hK', rfl⟩)
      refine ⟨(.int .i64 fw), ?_, by rw [HR.out], Fr.of_below (((HB1.out.trans (hB.mono (by omega))).setCell (p := ⟨w.heap.size + 1, 0, none⟩) (by simp) _).trans (belowK_b (w := w) (Nat.le_refl _) _ D _ _ (by omega) hK' rfl rfl))⟩
      simp [results, Tryz.f63, go_sem, hc5]
  case stop =>
    rintro D c pre W hD hpre ⟨rfl, ⟨hb, h48⟩, hB⟩ hK
    rw [HZ.out] at hD
    have hlen := hpre.length_le
    rw [Fo.vis_len, show (Fo.cons x A c ks .nil).tr.size = ks.tr.size + 1 by simp [Fo.tr, Tr.size]] at hlen
    have HR := Lib.hid (show checkT x ks.tr = 23 by unfold checkT; rw [if_pos (by omega)])
    have c1 : W.cell? ⟨w.heap.size + 1, 0, none⟩ = some (.int .i64 23) := hb.cell 0
    gi_wp2
    refine ⟨by simp, .inl ⟨_, _, rfl, run_takeDeferred hK, ?_⟩⟩
    have hc5 := cell_kept c1 (grownBy_putObj' _ D (.deferred none)) (fun r e => by cases e; exact ⟨_, hK, rfl⟩)
    refine ⟨(.int .i64 23), ?_, by rw [HR.out], Fr.of_below ((HB1.out.trans (hB.mono (by omega))).trans (belowK_b (w := w) (Nat.le_refl _) W D _ _ (by omega) hK rfl rfl))⟩
    simp [results, Tryz.f63, go_sem, hc5]
end Go.Proofs.YtoegdmpmagbaiaaGreatDoor
