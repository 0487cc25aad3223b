/- The callers of formula.each: Size, Deep, Sound, Check. -/
import Derived.Test.YtoegdmpmagbaiaaGreatDoorQFeach
import Derived.Test.YtoegdmpmagbaiaaGreatDoorQFwrong
namespace Go.Proofs.YtoegdmpmagbaiaaGreatDoor
open Go.RowKit Go.Shelf
attribute [local go_sem] Oper.semAt_some

theorem prg_each (w : World) (p : Option Addr) : CallsIn Fence.wide 2 Tryz.prog 84 #[.pointer p] w fun e w' => e = .returned (.func (.func 129) #[] #[.pointer (some ⟨w.heap.size, 0, none⟩)]) ∧ w.alloc (.cells #[.pointer p] 123) = w' := by
  refine callsIn_wide.2 ?_
  go_enter Tryz.func84, Tryz.ntmps84
  go_wp2
  go_ret
  exact ⟨rfl, rfl⟩
theorem box_at {w : World} {x : Nd} {A : Option Addr} {c : Nat} {ks : Fo} (hs : FoSl w.heap.size w A c ks) (t : TypeId) : (Fo.cons x A c ks .nil).At (w.heap.size + 1) (w.alloc (.cells #[.int .i64 x.op, .string x.name, .int .i64 x.cmp, .int .i64 x.val, .int .i64 x.lo, .int .i64 x.hi, .slice A ks.len c] t)) w.heap.size 0 := by
  refine ⟨by omega, by simp, fun j u hu => ?_, hs.ok, hs.some_, fun bb oo e => ((hs.at_ bb oo e).keep (fun k _ hk => Below.heap_alloc _ _ k hk)).mono (by omega), trivial⟩
  rw [Nat.zero_add, (Blk.new w t _).cell j]
  simpa [fcs] using hu
theorem Blk.far_ {β : Type} {B g : Nat} {t : TypeId} {cs : β → Array Value} (hg : g < B) : Far B (fun s W => Blk W g t (cs s)) := fun s W W' row hs hgr hr => far_block (β := β) hg s W W' row hs hgr hr
theorem Blk.below {w w' : World} {N g : Nat} {t : TypeId} {cs : Array Value} (h : Blk w g t cs) (hb : Below N w w') (hg : g < N) : Blk w' g t cs := (hb.block g hg).trans h
/- formula.Deep, Sound, Check. -/
open Go.RowKit Go.Shelf
attribute [local go_sem] Oper.semAt_some

/-- How deep the deepest of some nodes stands. -/
def maxD (m : Nat) (l : List (Nd × Nat × Nat)) : Nat := l.foldl (fun m y => max m y.2.2) m
theorem maxD_snoc (m : Nat) (l : List (Nd × Nat × Nat)) (y : Nd × Nat × Nat) : maxD m (l ++ [y]) = max (maxD m l) y.2.2 := by simp [maxD]
theorem maxD_append (m : Nat) (l k : List (Nd × Nat × Nat)) : maxD m (l ++ k) = maxD (maxD m l) k := by simp [maxD]
theorem maxD_nodes (t : Tr) : ∀ m d, 1 ≤ d → maxD m (t.nodes d) = max m (if t.deep = 0 then 0 else t.deep + d - 1) := by
  induction t with
  | nil => intro m d _; simp [Tr.nodes, maxD, Tr.deep]
  | cons x k r ihk ihr =>
    intro m d hd
    simp only [Tr.nodes]
    rw [show (x, k.len, d) :: (k.nodes (d + 1) ++ r.nodes d) = [(x, k.len, d)] ++ (k.nodes (d + 1) ++ r.nodes d) from rfl, maxD_append, maxD_append, ihk _ _ (by omega), ihr _ _ hd]
    have h0 : ¬ (Tr.cons x k r).deep = 0 := by simp only [Tr.deep]; omega
    rw [if_neg h0]
    simp only [maxD, List.foldl_cons, List.foldl_nil, Tr.deep]
    by_cases h1 : k.deep = 0 <;> by_cases h2 : r.deep = 0 <;> simp only [h1, h2, if_true, if_false] <;> omega
theorem maxD_tree (x : Nd) (ks : Tr) : maxD 0 ((Tr.cons x ks .nil).nodes 1) = ks.deep + 1 := by
  rw [maxD_nodes _ _ _ (Nat.le_refl _)]
  have h0 : ¬ (Tr.cons x ks .nil).deep = 0 := by simp only [Tr.deep]; omega
  rw [if_neg h0]
  simp only [Tr.deep]; omega
/-- What is wrong with the first node with which something is. -/
def firstW (l : List (Nd × Nat × Nat)) : Int := l.foldl (fun e y => if e = 0 then wrongN y.1 y.2.1 else e) 0
theorem firstW_snoc (l : List (Nd × Nat × Nat)) (y : Nd × Nat × Nat) : firstW (l ++ [y]) = if firstW l = 0 then wrongN y.1 y.2.1 else firstW l := by unfold firstW; rw [List.foldl_append]; rfl
theorem firstW_stop {l m : List (Nd × Nat × Nat)} (h : l <+: m) (hw : ¬ firstW l = 0) : firstW m = firstW l := by
  obtain ⟨k, rfl⟩ := h
  have : ∀ (k : List (Nd × Nat × Nat)) (e : Int), ¬ e = 0 → k.foldl (fun e y => if e = 0 then wrongN y.1 y.2.1 else e) e = e := by
    intro k
    induction k with
    | nil => intro e _; rfl
    | cons y k ih => intro e he; rw [List.foldl_cons, if_neg he]; exact ih e he
  unfold firstW at hw ⊢
  rw [List.foldl_append]
  exact this k _ hw
def ndOf (v : Vis) : Nd × Nat × Nat := (v.x, v.n, v.d)
theorem vis_prefix {pre l : List Vis} (h : pre <+: l) : pre.map ndOf <+: l.map ndOf := h.map _
theorem vis_root (x : Nd) (A : Option Addr) (c : Nat) (ks : Fo) (b off : Nat) : ((Fo.cons x A c ks .nil).vis b off 1).map ndOf = (Tr.cons x ks.tr .nil).nodes 1 := Fo.vis_nodes _ b off 1

theorem Fr.others {W W' : World} (h : Fr Nob W W') : KeepsOthers W W' := ⟨h.size, fun k _ ho _ => (h.block k (Array.getElem?_eq_some_iff.1 ho).1 (fun e => e)).trans ho⟩
theorem ShVar.below {N : Nat} {w w' : World} (h : ShVar w) (hb : Below N w w') (hN : w.heap.size ≤ N) : ShVar w' := fun k hk =>
  have hc : ∀ {p : Addr} {v : Value}, w.cell? p = some v → w'.cell? p = some v := fun hp => (hb.cell (by have := World.block_lt_of_cell? w _ hp; omega)).trans hp
  ⟨hc (h k hk).1, hc (h k hk).2.1, hc (h k hk).2.2.1, hc (h k hk).2.2.2⟩

set_option maxRecDepth 100000 in
set_option maxHeartbeats 4000000 in
theorem prg_Sound (w : World) (x : Nd) (A : Option Addr) (c : Nat) (ks : Fo) (hs : FoSl w.heap.size w A c ks) (hsz : ks.tr.size ≤ 100000) (hv : ShVar w) (hnm : ∀ y ∈ (Tr.cons x ks.tr .nil).nodes 1, y.1.name.size ≤ 9223372036854775807) :
    Calls Tryz.prog 53 #[fval x A ks.len c] w fun e w' => e = .returned (.bool (firstW ((Tr.cons x ks.tr .nil).nodes 1) == 0)) ∧ Fr Nob w w' := by
  have HS := Lib.hid hs
  have HV := Lib.hid hv
  have HN := Lib.hid hnm
  clear hs hv hnm
  unfold fval
  refine (callsIn_wide (n := 3)).1 ?_
  refine callsIn_of_wp_marks Tryz.func53 rfl trivial ?_ rfl
  simp only [Tryz.ntmps53, List.size_toArray, List.length_cons, List.length_nil, Nat.reduceAdd, Nat.reduceSub, Array.replicate_succ, Array.replicate_zero, List.push_toArray, List.append_toArray, List.nil_append, List.cons_append]
  gi_wp2_with (refine ⟨trivial, ?_⟩; gi_at_call 84; refine (prg_each _ _).mono ?_; rintro e w' ⟨rfl, rfl⟩)
  have hT := (box_at (x := x) HS.out 28)
  generalize hw1 : w.alloc (.cells #[.int .i64 x.op, .string x.name, .int .i64 x.cmp, .int .i64 x.val, .int .i64 x.lo, .int .i64 x.hi, .slice A ks.len c] 28) = w1 at *
  have hz1 : w1.heap.size = w.heap.size + 1 := by rw [← hw1]; simp
  have hB1 : Below w.heap.size w w1 := by rw [← hw1]; exact (Below.refl _ _).alloc (Nat.le_refl _) _
  have HB1 := Lib.hid hB1
  have HT := Lib.hid hT
  clear hT hw1 hB1
  generalize hw0 : (w1.alloc (.cells #[.bool false] 4)).alloc (.cells #[.pointer (some ⟨w.heap.size, 0, none⟩)] 123) = w0 at *
  have hz0 : w0.heap.size = w.heap.size + 3 := by rw [← hw0]; simp [hz1]
  have hF : Fr Nob w1 w0 := by rw [← hw0]; exact ((Fr.refl _ _).alloc _).alloc _
  have b1 : Blk w0 (w.heap.size + 1) 4 #[.bool false] := by rw [← hw0]; exact (Blk.new_eq hz1.symm).alloc _
  have b2 : Blk w0 (w.heap.size + 2) 123 #[.pointer (some ⟨w.heap.size, 0, none⟩)] := by rw [← hw0]; exact Blk.new_eq (by simp [hz1])
  have HE := Lib.hid (each_far (3 - 1) (w.heap.size + 1) (w.heap.size + 2) (fun k => k = w.heap.size + 1) (fun k hk => ⟨by omega, by omega⟩) w0 (fun k hk => by omega) w.heap.size 0 x A c ks (b2.cell 0) (HT.out.fr hF) (by omega) hsz)
  have HZ := Lib.hid hz0
  have HB0 := Lib.hid (show Below (w.heap.size + 1) w1 w0 from hF.below.mono (by omega))
  have HZ1 := Lib.hid hz1
  have HK := Lib.hid b1
  clear hw0 hz1 hF b1 b2 hz0
  refine range_far rfl (by decide) (gf := 129) (lb := #[.pointer (some ⟨w.heap.size + 2, 0, none⟩)]) rfl trivial (enters_of Tryz.func129 (by kernel_rfl) rfl) HE.out (Below.refl _ _) (fun _ => rfl)
    (fun pre W => (Blk W (w.heap.size + 1) 4 #[.bool false] ∧ firstW (pre.map ndOf) = 0) ∧ Below (w.heap.size + 1) w1 W) (fun c pre W => c = .ret ∧ (Blk W (w.heap.size + 1) 4 #[.bool false] ∧ ¬ firstW (pre.map ndOf) = 0) ∧ Below (w.heap.size + 1) w1 W)
    (((Blk.far_ (by rw [HZ.out]; omega)).and far_pure).and (far_below (by rw [HZ1.out]; exact Nat.le_refl _) (by rw [HZ.out]; omega))) (fun _ => far_pure.and (((Blk.far_ (by rw [HZ.out]; omega)).and far_pure).and (far_below (by rw [HZ1.out]; exact Nat.le_refl _) (by rw [HZ.out]; omega)))) ⟨⟨HK.out, rfl⟩, HB0.out⟩
    (fun v => { tmps := #[.agg #[.int .i64 x.op, .string x.name, .int .i64 x.cmp, .int .i64 x.val, .int .i64 x.lo, .int .i64 x.hi, .slice A ks.len c], .pointer (some ⟨w.heap.size, 0, none⟩), .pointer (some ⟨w.heap.size + 1, 0, none⟩), .pointer (some ⟨v.b, v.off, none⟩), .func (.func 129) #[] #[.pointer (some ⟨w.heap.size + 2, 0, none⟩)], .pointer (some ⟨v.b, v.off, none⟩), .int .i64 v.d, undef, undef, undef], defers := [] }) ?assign ?body ?done ?stop
  case assign =>
    intro l v W K hK
    gi_wp2
    simpa [visEnc] using hK
  case body =>
    rintro l pre v W ⟨⟨hb, h0⟩, hB⟩ hpre
    have hmx := firstW_snoc (pre.map ndOf) (ndOf v)
    rw [show pre.map ndOf ++ [ndOf v] = (pre ++ [v]).map ndOf by simp, if_pos h0, show wrongN (ndOf v).1 (ndOf v).2.1 = wrongN v.x v.n from rfl] at hmx
    have hmem : v ∈ (Fo.cons x A c ks .nil).vis w.heap.size 0 1 := hpre.subset (by simp)
    have hsn := HN.out (ndOf v) (by rw [← vis_root x A c ks w.heap.size 0]; exact List.mem_map_of_mem hmem)
    have hat := (Fo.vis_at (HT.out.keep (fun k hk _ => hB.block k hk)) v hmem).1
    have HW := Lib.hid (fun W' (h : Fr Nob W W') => prg_wrong W' v.b v.off v.x v.A v.n v.c ((HV.out.below (HB1.out.trans (hB.mono (by omega))) (Nat.le_refl _)).fr h) hsn (hat.fr h))
    have f1 := hb.frozen 0
    have c1 : W.cell? ⟨w.heap.size + 1, 0, none⟩ = some (.bool false) := hb.cell 0
    have HB := Lib.hid hb
    have HBB := Lib.hid hB
    have HM := Lib.hid hmx
    clear hb hB hpre hmx h0 hsn hat hmem
    generalize wrongN v.x v.n = e at *
    gi_wp2_with (refine ⟨trivial, ?_⟩; gi_at_call 85; refine (CallsIn.inRound l ((callsIn_wide (n := 0)).2 (HW.out _ (Fr.refl _ _)))).mono ?_; rintro e w' ⟨rfl, hf⟩; have c1 : w'.cell? ⟨w.heap.size + 1, 0, none⟩ = some (.bool false) := (HB.out.fr hf (fun e => e)).cell 0; have f1 := (HB.out.fr hf (fun e => e)).frozen 0)
    · have he : ¬ e = 0 := by have h : (e != 0) = true := by assumption
                              simpa using h
      exact ⟨(Fr.others hf).trans (KeepsOthers.setCell _ _ _), rfl, ⟨(HB.out.fr hf (fun e => e)).set 0 (.bool false), by rw [HM.out]; exact he⟩, (HBB.out.trans (hf.below.mono (by have := HBB.out.size; rw [HZ1.out] at this; exact this))).setCell (by simp) _⟩
    · have he : e = 0 := by have h : (e != 0) = false := by assumption
                            simpa using h
      exact ⟨Fr.others hf, KpS.fr (hf.mono (fun _ _ h => h.elim)), ⟨HB.out.fr hf (fun e => e), by rw [HM.out]; exact he⟩, HBB.out.trans (hf.below.mono (by have := HBB.out.size; rw [HZ1.out] at this; exact this))⟩
  case done =>
    rintro D W hD ⟨⟨hb, h0⟩, hB⟩ hK
    rw [vis_root] at h0
    rw [HZ.out] at hD
    have f1 := hb.frozen 0
    have c1 : W.cell? ⟨w.heap.size + 1, 0, none⟩ = some (.bool false) := hb.cell 0
    gi_wp2
    have hK' := (KeepsOthers.setCell W ⟨w.heap.size + 1, 0, none⟩ (.bool true)).same D _ hK rfl
    refine ⟨by simp, .inl ⟨_, _, rfl, run_takeDeferred hK', ?_⟩⟩
    have hc5 := cell_kept (World.cell?_setCell_same' W ⟨w.heap.size + 1, 0, none⟩ (.bool true) (by rw [c1]; rfl)) (grownBy_putObj' _ D (.deferred none)) (fun r e => by cases e; exact ⟨_, hK', rfl⟩)
    refine ⟨(.bool true), ?_, by rw [h0]; rfl, Fr.of_below (((HB1.out.trans (hB.mono (by omega))).setCell (p := ⟨w.heap.size + 1, 0, none⟩) (by simp) _).trans (belowK_b (w := w) (Nat.le_refl _) _ D _ _ (by omega) hK' rfl rfl))⟩
    simp [results, Tryz.f53, go_sem, hc5]
  case stop =>
    rintro D c pre W hD hpre ⟨rfl, ⟨hb, h0⟩, hB⟩ hK
    rw [HZ.out] at hD
    have f1 := hb.frozen 0
    have c1 : W.cell? ⟨w.heap.size + 1, 0, none⟩ = some (.bool false) := hb.cell 0
    have hst := firstW_stop (vis_prefix hpre) h0
    rw [vis_root] at hst
    gi_wp2
    refine ⟨by simp, .inl ⟨_, _, rfl, run_takeDeferred hK, ?_⟩⟩
    have hc5 := cell_kept c1 (grownBy_putObj' _ D (.deferred none)) (fun r e => by cases e; exact ⟨_, hK, rfl⟩)
    refine ⟨(.bool false), ?_, by rw [hst]; exact ret1b (by simpa using h0), Fr.of_below ((HB1.out.trans (hB.mono (by omega))).trans (belowK_b (w := w) (Nat.le_refl _) W D _ _ (by omega) hK rfl rfl))⟩
    simp [results, Tryz.f53, go_sem, hc5]
end Go.Proofs.YtoegdmpmagbaiaaGreatDoor
