/- formula.Nodes: the iterator over a formula's nodes, as values. -/
import Derived.Test.YtoegdmpmagbaiaaDoorN1
import Derived.Test.YtoegdmpmagbaiaaDoorFsize
import Derived.Stop.RegionWithIn
namespace Go.Proofs.YtoegdmpmagbaiaaDoor
open Go.RowKit Go.Shelf
attribute [local go_sem] Oper.semAt_some

theorem roundIn_wide {n m l l2 : Nat} {P : Program} {f : FuncId} {tmps : Array Value} {a b : Code} {w : World} {R : Ending → World → Prop} (h : RoundIn Fence.wide n P l f tmps a b w R) : RoundIn (Fence.wide.inRound l2) m P l f tmps a b w R :=
  ⟨h.1, fun c cs _ => h.2 c cs (fun d hd => by cases hd)⟩
theorem grown_drewJ (w : World) (row : Option Nat) : w.grownBy w.drew row := ⟨rfl, rfl, rfl, Nat.le_refl _, fun _ _ _ => rfl⟩
theorem FarT.drew {β : Type} {B : Nat} {J : β → World → Prop} (h : FarT B J) {s : β} {W : World} (hs : J s W) : J s W.drew := h s W _ none hs (grown_drewJ _ _) (fun r e => by cases e)
theorem far_at {β : Type} {B N b off : Nat} {f : Fo} (hN : N ≤ B) : Far B (fun (_ : β) W => f.At N W b off) := fun _ W W' row hs hg hr =>
  hs.keep (fun k hk hlt => hg.block k hlt (fun e => by have := hr k e.symm; omega))
theorem far_sl {β : Type} {B N : Nat} {A : Option Addr} {c : Nat} {f : Fo} (hN : N ≤ B) : Far B (fun (_ : β) W => FoSl N W A c f) := fun _ W W' row hs hg hr =>
  hs.keep (fun k hk hlt => hg.block k hlt (fun e => by have := hr k e.symm; omega))
theorem vis_root_at {N : Nat} {w : World} {gf : Nat} {x : Nd} {A : Option Addr} {c : Nat} {ks : Fo} (hs : FoSl N w A c ks) (hr : Blk w gf 28 #[.int .i64 x.op, .string x.name, .int .i64 x.cmp, .int .i64 x.val, .int .i64 x.lo, .int .i64 x.hi, .slice A ks.len c]) (v : Vis) (hv : v ∈ (Fo.cons x A c ks .nil).vis gf 0 1) : NdAt w v.b v.off v.x v.A v.n v.c ∧ v.b < w.heap.size := by
  simp only [Fo.vis, List.append_nil, List.mem_cons] at hv
  rcases hv with rfl | hv
  · exact ⟨NdAt.of fun j u hu => by rw [Nat.zero_add, hr.cell]; simpa [fcs] using hu, hr.lt⟩
  · rcases Nat.eq_zero_or_pos ks.len with h0 | h0
    · have : ks = .nil := by cases ks with | nil => rfl | cons => simp [Fo.len] at h0
      subst this
      cases hv
    · obtain ⟨bb, oo, rfl⟩ := hs.some_ h0
      have := Fo.vis_at (hs.at_ bb oo rfl) v hv
      exact ⟨this.1, this.2.2⟩
/-- A node, as it is handed out. -/
def nodeEnc (v : Vis) : Array Value := #[.agg #[.int .i64 v.x.op, .string v.x.name, .int .i64 v.x.cmp, .int .i64 v.x.val, .int .i64 v.x.lo, .int .i64 v.x.hi, .slice v.A v.n v.c]]
/-- What a round answers. -/
def YRes (J Jx : List Vis → World → Prop) (S : Nat → Nat → Prop) (B : Nat) (pre : List Vis) (W1 : World) (e : Ending) (W' : World) : Prop :=
  ∃ b : Bool, e = .returned (.bool b) ∧ KeepsFrom B W1 W' ∧ (b = true → J pre W' ∧ KpT S W1 W') ∧ (b = false → Jx pre W')
theorem kf_mono {B C : Nat} {W W' : World} (h : KeepsFrom B W W') (hc : B ≤ C) : KeepsFrom C W W' := ⟨h.size, fun k o hk => h.same k o (by omega)⟩
theorem KpT.drew {S : Nat → Nat → Prop} {W W' : World} (h : KpT S W.drew W') : KpT S W W' := h
theorem kf_drew {B : Nat} {W W' : World} (h : KeepsFrom B W.drew W') : KeepsFrom B W W' := ⟨h.size, h.same⟩
set_option maxRecDepth 100000 in
set_option maxHeartbeats 4000000 in
theorem nodes_far (N : Nat) (S : Nat → Nat → Prop) (hS : ∀ k t, S k t → N ≤ k) (w0 : World) (hS0 : ∀ k t, S k t → t = 28 ∨ k < w0.heap.size) (gf : Nat) (x : Nd) (A : Option Addr) (c : Nat) (ks : Fo) (ht : FoSl N w0 A c ks) (hr : Blk w0 gf 28 #[.int .i64 x.op, .string x.name, .int .i64 x.cmp, .int .i64 x.val, .int .i64 x.lo, .int .i64 x.hi, .slice A ks.len c]) (hSb : ¬ S gf 28) (hN : N ≤ w0.heap.size) (hsz : ks.tr.size ≤ 100000) :
    SeqFarT Fence.wide 4 Tryd.prog 32 #[.pointer (some ⟨gf, 0, none⟩)] nodeEnc S ((Fo.cons x A c ks .nil).vis gf 0 1) w0 := by
  intro l J Jx W hW hJ hJx hY h0
  have HS := Lib.hid hS
  have HS0 := Lib.hid hS0
  have HT := Lib.hid (ht.keep (fun k _ hk => hW.block k hk) : FoSl N W A c ks)
  have HRB := Lib.hid (show Blk W gf 28 #[.int .i64 x.op, .string x.name, .int .i64 x.cmp, .int .i64 x.val, .int .i64 x.lo, .int .i64 x.hi, .slice A ks.len c] from (hW.block gf hr.lt).trans hr)
  have HSB := Lib.hid hSb
  have hgl := HRB.out.lt
  have HSW := Lib.hid hW.size
  have HN := Lib.hid hN
  have HY := Lib.hid hY
  have H0 := Lib.hid h0
  clear hS hS0 ht hW hN hY h0 hr hSb
  have hnil : ∀ w : World, (binOp .eql 65 (.func (.yield l) #[] #[]) .nilFunc).run Tryd.prog w = .ok (.bool false) w := by intro w; first | rfl | (simp [binOp, go_sem]; done)
  refine callsIn_of_wp_marks Tryd.func32 rfl trivial ?_ rfl
  simp only [Tryd.ntmps32, List.size_toArray, List.length_cons, List.length_nil, Nat.reduceAdd, Nat.reduceSub, Array.replicate_succ, Array.replicate_zero, List.push_toArray, List.append_toArray, List.nil_append, List.cons_append]
  gi_wp2_with (refine ⟨trivial, ?_⟩; gi_at_call 33; refine (callsIn_wide.2 (callsIn_wide.1 (prg_each _ _))).mono ?_; rintro e w' ⟨rfl, rfl⟩)
  have hsW := HSW.out
  obtain ⟨W1, hW1⟩ : ∃ W1, (W.alloc (.cells #[.func (.yield l) #[] #[]] 65)).alloc (.cells #[.pointer (some ⟨gf, 0, none⟩)] 72) = W1 := ⟨_, rfl⟩
  have hz1 : W1.heap.size = W.heap.size + 2 := by rw [← hW1]; simp
  have hf1 : Fr Nob W W1 := by rw [← hW1]; exact ((Fr.refl _ _).alloc _).alloc _
  have b1 : Blk W1 W.heap.size 65 #[.func (.yield l) #[] #[]] := by rw [← hW1]; exact (Blk.new _ _ _).alloc _
  have b2 : Blk W1 (W.heap.size + 1) 72 #[.pointer (some ⟨gf, 0, none⟩)] := by rw [← hW1]; exact Blk.new_eq (by simp)
  have hT1 : FoSl N W1 A c ks := HT.out.keep (fun k _ hk => hf1.block k hk (fun e => e))
  have hR1 : Blk W1 gf 28 #[.int .i64 x.op, .string x.name, .int .i64 x.cmp, .int .i64 x.val, .int .i64 x.lo, .int .i64 x.hi, .slice A ks.len c] := HRB.out.fr hf1 (fun e => e)
  have hJ1 : J [] W1 := by rw [← hW1]; exact hJ.alloc _ (hJ.alloc _ H0.out)
  have hE := each_farT (4 - 1) N (W.heap.size + 1) S HS.out W1 (fun k hk => by rcases HS0.out k _ hk with h | h; exact absurd h (by decide); omega) (fun hk => by rcases HS0.out _ _ hk with h | h; exact absurd h (by decide); omega) gf x A c ks b2 hT1 hR1 HSB.out (by have := HN.out; omega) hsz
  have hNW : N ≤ W1.heap.size := by have := HN.out; omega
  rw [hW1]
  have HE := Lib.hid hE
  have HJ := Lib.hid hJ
  have HJx := Lib.hid hJx
  clear hW1 hf1 b2 hE H0 HT
  refine range_farGT rfl (by decide) (gf := 51) (lb := #[.pointer (some ⟨W.heap.size + 1, 0, none⟩)]) rfl trivial (enters_of Tryd.func51 (by kernel_rfl) rfl) HE.out (Below.refl _ _) (fun _ => rfl)
    (fun pre Wx => J pre Wx ∧ Blk Wx W.heap.size 65 #[.func (.yield l) #[] #[]] ∧ FoSl N Wx A c ks ∧ Blk Wx gf 28 #[.int .i64 x.op, .string x.name, .int .i64 x.cmp, .int .i64 x.val, .int .i64 x.lo, .int .i64 x.hi, .slice A ks.len c]) (fun cc pre Wx => cc = .ret ∧ Jx pre Wx)
    ((hJ.mono (by omega)).and ((Blk.far_ (by omega)).toT.and ((far_sl hNW).toT.and (Blk.far_ (by omega)).toT))) (fun _ s Wa Wb row hs hg hr => ⟨hs.1, (hJx.mono (by omega)) s Wa Wb row hs.2 hg hr⟩) ⟨hJ1, b1, hT1, hR1⟩
    (fun v => { tmps := #[.func (.yield l) #[] #[], .pointer (some ⟨gf, 0, none⟩), .pointer (some ⟨W.heap.size, 0, none⟩), .pointer (some ⟨v.b, v.off, none⟩), .func (.yield l) #[] #[], .bool false, .func (.func 51) #[] #[.pointer (some ⟨W.heap.size + 1, 0, none⟩)], .pointer (some ⟨v.b, v.off, none⟩), .int .i64 v.d, undef, undef, undef, undef, undef, undef], defers := [] }) ?assign ?body ?done ?stop
  case assign =>
    intro l2 v Wx K hK
    gi_wp2
    simpa [visEnc] using hK
  case body =>
    rintro l2 pre v W2 ⟨hj, hy, hat, hrt⟩ hpre
    have hmem : v ∈ (Fo.cons x A c ks .nil).vis gf 0 1 := hpre.subset (by simp)
    obtain ⟨hnd, hvl⟩ := vis_root_at hat hrt v hmem
    obtain ⟨fn2, tmps2, as2, bd2, hy2, hR2⟩ := HY.out pre v W2.drew (HJ.out.drew hj) hpre
    have HR := Lib.hid (fun m => ((roundIn_wide hR2 : RoundIn (Fence.wide.inRound l2) m Tryd.prog l fn2 tmps2 as2 bd2 W2.drew _).mono (R' := YRes J Jx S W.heap.size (pre ++ [v]) W2) (by
      rintro e W3 (⟨rfl, h1, h2, h3⟩ | ⟨rfl, h1, h3⟩)
      · exact ⟨true, rfl, kf_drew h3, fun _ => ⟨h1, h2.drew⟩, fun e => by cases e⟩
      · exact ⟨false, rfl, kf_drew h3, (fun e => by cases e), fun _ => h1⟩)))
    have HB := Lib.hid hy
    have HAT := Lib.hid hat
    have HRT := Lib.hid hrt
    have hyc := hy.cell 0
    have hyl := hy.lt
    obtain ⟨d0, d1, d2, d3, d4, d5, d6⟩ := hnd
    unfold nodeEnc at hy2
    clear hpre hmem hy hat hR2 hj hrt
    obtain ⟨vb, vo, ⟨op, nm, cm, va, lo, hi⟩, vA, vn, vc, vd⟩ := v
    dsimp only at *
    gi_wp2
    gi_region_with (refine (HR.out _).mono ?_; rintro e W3 ⟨b, rfl, hk3, hy3, hn3⟩)
    all_goals
      have HB3 := Lib.hid (fun (e : b = true) => hy3 e)
      have HX3 := Lib.hid (fun (e : b = false) => hn3 e)
      have HK3 := Lib.hid hk3
      clear hy3 hn3 hk3
      cases b
      · gi_wp2
        exact ⟨kf_mono HK3.out (by omega), rfl, HX3.out (by trivial)⟩
      · gi_wp2
        exact ⟨kf_mono HK3.out (by omega), (HB3.out (by trivial)).2, (HB3.out (by trivial)).1, (HB3.out (by trivial)).2.blk HB.out (fun e => by rcases HS0.out _ _ e with h | h; exact absurd h (by decide); omega), HAT.out.kpT (HB3.out (by trivial)).2 HS.out, (HB3.out (by trivial)).2.blk HRT.out HSB.out⟩
  case done =>
    rintro D Wd hD ⟨hj, _⟩ hK
    gi_wp2
    refine ⟨by simp, .inl ⟨_, _, rfl, run_takeDeferred hK, ?_⟩⟩
    exact ⟨_, results_none rfl _ _ _, ⟨_, rfl⟩, .inl (hJ.put _ hj (by omega) hK rfl)⟩
  case stop =>
    rintro D cc pre Wd hD hpre ⟨rfl, hjx⟩ hK
    gi_wp2
    refine ⟨by simp, .inl ⟨_, _, rfl, run_takeDeferred hK, ?_⟩⟩
    exact ⟨_, results_none rfl _ _ _, ⟨_, rfl⟩, .inr ⟨pre, hpre, hJx.put _ hjx (by omega) hK rfl⟩⟩
end Go.Proofs.YtoegdmpmagbaiaaDoor
