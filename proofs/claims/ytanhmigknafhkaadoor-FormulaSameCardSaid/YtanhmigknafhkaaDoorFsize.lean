/- The callers of formula.each: Size, Deep, Sound, Check. -/
import Derived.Test.YtanhmigknafhkaaDoorFeach
import Derived.Test.YtanhmigknafhkaaDoorFwrong
namespace Go.Proofs.YtanhmigknafhkaaDoor
open Go.RowKit Go.Shelf
attribute [local go_sem] Oper.semAt_some

theorem prg_each (w : World) (p : Option Addr) : CallsIn Fence.wide 2 Tryd.prog 30 #[.pointer p] w fun e w' => e = .returned (.func (.func 45) #[] #[.pointer (some ⟨w.heap.size, 0, none⟩)]) ∧ w.alloc (.cells #[.pointer p] 65) = w' := by
  refine callsIn_wide.2 ?_
  go_enter Tryd.func30, Tryd.ntmps30
  go_wp2
  go_ret
  exact ⟨rfl, rfl⟩
theorem box_at {w : World} {x : Nd} {A : Option Addr} {c : Nat} {ks : Fo} (hs : FoSl w.heap.size w A c ks) (t : TypeId) : (Fo.cons x A c ks .nil).At (w.heap.size + 1) (w.alloc (.cells #[.int .i64 x.op, .string x.name, .int .i64 x.cmp, .int .i64 x.val, .int .i64 x.lo, .int .i64 x.hi, .slice A ks.len c] t)) w.heap.size 0 := by
  refine ⟨by omega, by simp, fun j u hu => ?_, hs.ok, hs.some_, fun bb oo e => ((hs.at_ bb oo e).keep (fun k _ hk => Below.heap_alloc _ _ k hk)).mono (by omega), trivial⟩
  rw [Nat.zero_add, (Blk.new w t _).cell j]
  simpa [fcs] using hu
theorem Blk.far_ {β : Type} {B g : Nat} {t : TypeId} {cs : β → Array Value} (hg : g < B) : Far B (fun s W => Blk W g t (cs s)) := fun s W W' row hs hgr hr => far_block (β := β) hg s W W' row hs hgr hr
theorem Blk.below {w w' : World} {N g : Nat} {t : TypeId} {cs : Array Value} (h : Blk w g t cs) (hb : Below N w w') (hg : g < N) : Blk w' g t cs := (hb.block g hg).trans h
set_option maxRecDepth 100000 in
set_option maxHeartbeats 4000000 in
theorem prg_Size (w : World) (x : Nd) (A : Option Addr) (c : Nat) (ks : Fo) (hs : FoSl w.heap.size w A c ks) (hsz : ks.tr.size ≤ 100000) :
    Calls Tryd.prog 28 #[fval x A ks.len c] w fun e w' => e = .returned (.int .i64 (ks.tr.size + 1 : Nat)) ∧ Fr Nob w w' := by
  have HS := Lib.hid hs
  clear hs
  unfold fval
  refine (callsIn_wide (n := 3)).1 ?_
  refine callsIn_of_wp_marks Tryd.func28 rfl trivial ?_ rfl
  simp only [Tryd.ntmps28, List.size_toArray, List.length_cons, List.length_nil, Nat.reduceAdd, Nat.reduceSub, Array.replicate_succ, Array.replicate_zero, List.push_toArray, List.append_toArray, List.nil_append, List.cons_append]
  gi_wp2_with (refine ⟨trivial, ?_⟩; gi_at_call 30; refine (prg_each _ _).mono ?_; rintro e w' ⟨rfl, rfl⟩)
  have hT := (box_at (x := x) HS.out 28)
  generalize hw1 : w.alloc (.cells #[.int .i64 x.op, .string x.name, .int .i64 x.cmp, .int .i64 x.val, .int .i64 x.lo, .int .i64 x.hi, .slice A ks.len c] 28) = w1 at *
  have hz1 : w1.heap.size = w.heap.size + 1 := by rw [← hw1]; simp
  have hB1 : Below w.heap.size w w1 := by rw [← hw1]; exact (Below.refl _ _).alloc (Nat.le_refl _) _
  generalize hw0 : (w1.alloc (.cells #[.int .i64 0] 3)).alloc (.cells #[.pointer (some ⟨w.heap.size, 0, none⟩)] 65) = w0 at *
  have hz0 : w0.heap.size = w.heap.size + 3 := by rw [← hw0]; simp [hz1]
  have hF : Fr Nob w1 w0 := by rw [← hw0]; exact ((Fr.refl _ _).alloc _).alloc _
  have hB0 : Below w.heap.size w w0 := hB1.trans (hF.below.mono (by omega))
  have b1 : Blk w0 (w.heap.size + 1) 3 #[.int .i64 0] := by rw [← hw0]; exact (Blk.new_eq hz1.symm).alloc _
  have b2 : Blk w0 (w.heap.size + 2) 65 #[.pointer (some ⟨w.heap.size, 0, none⟩)] := by rw [← hw0]; exact Blk.new_eq (by simp [hz1])
  have hE := each_far (3 - 1) (w.heap.size + 1) (w.heap.size + 2) (fun k => k = w.heap.size + 1) (fun k hk => ⟨by omega, by omega⟩) w0 (fun k hk => by omega) w.heap.size 0 x A c ks (b2.cell 0) (hT.fr hF) (by omega) hsz
  have HZ := Lib.hid hz0
  have HB0 := Lib.hid hB0
  have HE := Lib.hid hE
  have HB1 := Lib.hid b1
  clear hw0 hw1 hT hE hz1 hB1 hF b1 b2 hB0 hz0
  refine range_far rfl (by decide) (gf := 45) (lb := #[.pointer (some ⟨w.heap.size + 2, 0, none⟩)]) rfl trivial (enters_of Tryd.func45 (by kernel_rfl) rfl) HE.out (Below.refl _ _) (fun _ => rfl)
    (fun pre W => Blk W (w.heap.size + 1) 3 #[.int .i64 (pre.length : Nat)] ∧ Below w.heap.size w W) (fun _ _ _ => False)
    ((Blk.far_ (by rw [HZ.out]; omega)).and (far_below (Nat.le_refl _) (by rw [HZ.out]; omega))) (fun _ _ _ _ _ hs _ _ => hs) ⟨HB1.out, HB0.out⟩
    (fun v => { tmps := #[.agg #[.int .i64 x.op, .string x.name, .int .i64 x.cmp, .int .i64 x.val, .int .i64 x.lo, .int .i64 x.hi, .slice A ks.len c], .pointer (some ⟨w.heap.size, 0, none⟩), .int .i64 0, .pointer (some ⟨w.heap.size + 1, 0, none⟩), .func (.func 45) #[] #[.pointer (some ⟨w.heap.size + 2, 0, none⟩)], .pointer (some ⟨v.b, v.off, none⟩), .int .i64 v.d, undef, undef, undef], defers := [] }) ?assign ?body ?done ?stop
  case assign =>
    intro l v W K hK
    gi_wp2
    simpa [visEnc] using hK
  case body =>
    rintro l pre v W ⟨hb, hB⟩ hpre
    have hlen := hpre.length_le
    rw [Fo.vis_len, List.length_append] at hlen
    simp only [Fo.tr, Tr.size, List.length_singleton] at hlen
    have hpl : (pre.length : Int) ≤ 100000 := by omega
    have c1 : W.cell? ⟨w.heap.size + 1, 0, none⟩ = some (.int .i64 pre.length) := hb.cell 0
    have f1 := hb.frozen 0
    have HB := Lib.hid hb
    have HW := Lib.hid hB
    clear hb hB hpre hlen
    gi_wp2
    exact ⟨KeepsOthers.setCell _ _ _, KpS.fr ((Fr.refl (fun k => k = w.heap.size + 1) W).setCell (p := ⟨w.heap.size + 1, 0, none⟩) (fun _ => rfl) _), by have h := HB.out.set 0 (.int .i64 ((pre.length : Int) + 1)); simpa using h, HW.out.setCell (by simp) _⟩
  case done =>
    rintro D W hD ⟨hb, hB⟩ hK
    rw [Fo.vis_len, show (Fo.cons x A c ks .nil).tr.size = ks.tr.size + 1 by simp [Fo.tr, Tr.size]] at hb
    rw [HZ.out] at hD
    have c1 : W.cell? ⟨w.heap.size + 1, 0, none⟩ = some (.int .i64 ((ks.tr.size + 1 : Nat) : Int)) := hb.cell 0
    have hb2 := hB.trans (belowK_b (w := w) (Nat.le_refl _) W D _ (.deferred none) (by omega) hK rfl rfl)
    clear hb hB
    gi_wp2
    refine ⟨by simp, .inl ⟨_, _, rfl, run_takeDeferred hK, ?_⟩⟩
    exact ⟨_, results_tmp rfl _ _ _, rfl, Fr.of_below hb2⟩
  case stop =>
    rintro D c pre W _ _ h _
    exact h.elim
end Go.Proofs.YtanhmigknafhkaaDoor
