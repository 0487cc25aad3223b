/- The law's plain, walked. -/
import Derived.Test.YtoegdmpmagbaiaaGreatDoorKD
import Derived.Deep.AppendLies
import Derived.Deep.RegionLaw
import Derived.Test.YtoegdmpmagbaiaaGreatDoorKC
import Derived.Test.YtoegdmpmagbaiaaGreatDoorQFsame2
import Derived.Lib.QuietBelow
namespace Go.Proofs.YtoegdmpmagbaiaaGreatDoor
open Go.RowKit

def fbx (x : Nd) (B : Option Addr) (n d : Nat) : Array Value := #[.int .i64 x.op, .string x.name, .int .i64 x.cmp, .int .i64 x.val, .int .i64 x.lo, .int .i64 x.hi, .slice B n d]
/-- How far the copy is made. -/
structure PlI (w wr : World) (x : Nd) (B : Option Addr) (d : Nat) (ks : Fo) (k : Nat) (A : Option Addr) (c : Nat) (ks1 : Fo) : Prop where
  fr : Fr Nob w wr
  fbox : Blk wr w.heap.size 28 #[.int .i64 x.op, .string x.name, .int .i64 x.cmp, .int .i64 x.val, .int .i64 x.lo, .int .i64 x.hi, .slice B ks.len d]
  rbox : Blk wr (w.heap.size + 1) 39 #[.int .i64 0, .string default, .int .i64 0, .int .i64 0, .int .i64 0, .int .i64 0, .slice none 0 0]
  xbox : Blk wr (w.heap.size + 2) 39 #[.int .i64 x.op, .string x.name, .int .i64 x.cmp, .int .i64 x.val, .int .i64 x.lo, .int .i64 x.hi, .slice A k c]
  own : wr.ownsRow (w.heap.size + 3) 39 7 (.slice A k c) k ks1.tops
  len : ks1.len = k
  subs : ks1.subs (fun b => w.heap.size + 3 ≤ b ∧ b < wr.heap.size ∧ ∀ g, A.map (·.block) = some g → b ≠ g) wr
  tr : ks1.tr.app (ks.get k).tr = ks.tr
theorem PlI.step {w wr w2 w4 : World} {x y : Nd} {B A A3 : Option Addr} {d c c3 k g4 c4 : Nat} {ks ks1 js js' : Fo} (hi : PlI w wr x B d ks k A c ks1) (hG : (ks.get k).tr = .cons y js.tr (ks.get (k + 1)).tr) (hF : Fr Nob wr w2) (htr : js'.tr = js.tr)
    (hsl : FoSlP (fun b => wr.drew.heap.size ≤ b ∧ b < w2.heap.size) w2 A3 c3 js') {o : Obj} (hgr : (w2.alloc o).grownBy w4 (Value.slice A k c).ownBlock)
    (hown4 : w4.ownsRow (w.heap.size + 3) 39 7 (.slice (some ⟨g4, 0, none⟩) (k + 1) c4) (k + 1) (ks1.tops ++ fcs y A3 js'.len c3)) (hat4 : (Value.slice A k c).ownBlock = some g4 ∨ g4 = w2.heap.size + 1) :
    PlI w (w4.setCell ⟨w.heap.size + 2, 6, none⟩ (.slice (some ⟨g4, 0, none⟩) (k + 1) c4)) x B d ks (k + 1) (some ⟨g4, 0, none⟩) c4 (ks1.snoc y A3 c3 js') := by
  have hs1 : w.heap.size + 2 < wr.heap.size := Blk.lt hi.xbox
  have hs2 := hF.size
  have hs4 := hgr.size
  rw [World.size_alloc] at hs4
  have hrow := hi.own.lt
  have hne : ∀ q, q < w.heap.size + 3 → (Value.slice A k c).ownBlock ≠ some q := fun q hq e => by have := (hrow q e).1; omega
  have hob : (Value.slice A k c).ownBlock = A.map (·.block) := by cases A <;> rfl
  have hg4lt : ∀ b, ((w.heap.size + 3 ≤ b ∧ b < wr.heap.size ∧ ∀ g, A.map (·.block) = some g → b ≠ g) ∨ (wr.heap.size ≤ b ∧ b < w2.heap.size)) → b ≠ g4 := by
    intro b hb e
    subst e
    rcases hat4 with h4 | h4
    · have h5 := hrow _ h4
      rw [hob] at h4
      rcases hb with hb | hb
      · exact hb.2.2 _ h4 rfl
      · omega
    · omega
  have hkeep : ∀ b, b < w2.heap.size → w.heap.size + 3 ≤ b → (Value.slice A k c).ownBlock ≠ some b → (w4.setCell ⟨w.heap.size + 2, 6, none⟩ (.slice (some ⟨g4, 0, none⟩) (k + 1) c4)).heap[b]? = w2.heap[b]? := fun b h1 h2 h3 =>
    (Below.heap_setCell w4 ⟨w.heap.size + 2, 6, none⟩ _ b (fun e => by simp at e; omega)).trans ((hgr.block b (by rw [World.size_alloc]; omega) (fun e => h3 e.symm)).trans (Below.heap_alloc w2 o b h1))
  refine ⟨(((hi.fr.call hF (fun _ h _ => h)).alloc o).grown hgr (fun q e hlt => by have := (hrow q e).1; omega)).setCell (fun h => absurd h (by simp)) _, ?_, ?_, ?_, ?_, by rw [Fo.snoc_len, hi.len], ?_, ?_⟩
  · exact (((hi.fbox.fr hF (fun e => e)).alloc o).grown hgr (hne _ (by omega))).far (by simp) _
  · exact (((hi.rbox.fr hF (fun e => e)).alloc o).grown hgr (hne _ (by omega))).far (by simp) _
  · exact (((hi.xbox.fr hF (fun e => e)).alloc o).grown hgr (hne _ (by omega))).set 6 _
  · rw [Fo.snoc_tops]
    exact own_fr hown4 ((Fr.refl (Only (w.heap.size + 2)) w4).setCell (p := ⟨w.heap.size + 2, 6, none⟩) (fun _ => rfl) _) (fun q _ hq _ e => by have : q = w.heap.size + 2 := e; omega)
  · refine Fo.subs_snoc ((hsl.keep (fun b hb _ => hkeep b hb.2 (by have : wr.heap.size ≤ b := hb.1; omega) (fun e => by have := (hrow b e).2; have : wr.heap.size ≤ b := hb.1; omega))).mono (fun b hb => ⟨by have : wr.heap.size ≤ b := hb.1; omega, by have := hb.2; simp; omega, fun g hg e => hg4lt b (.inr hb) (by simp at hg; omega)⟩))
      (Fo.subs_mono (fun b hb => ⟨hb.1, by have := hb.2.1; simp; omega, fun g hg e => hg4lt b (.inl hb) (by simp at hg; omega)⟩)
        (Fo.subs_keep (fun b hb hlt => (hkeep b (by omega) hb.1 (fun e => hb.2.2 b (by rw [← hob]; exact e) rfl)).trans (hF.block b hlt (fun e => e))) hi.subs))
  · rw [Fo.snoc_tr, htr, ← hG, hi.tr]
theorem PlI.done {w wr : World} {x : Nd} {B A : Option Addr} {d c k : Nat} {ks ks1 : Fo} (hi : PlI w wr x B d ks k A c ks1) (hk : ks.get k = .nil) : ks1.tr = ks.tr ∧ FoSlP (fun b => w.heap.size + 3 ≤ b ∧ b < wr.heap.size) wr A c ks1 := by
  have ht := hi.tr
  rw [hk, show Fo.nil.tr = .nil from rfl, Tr.app_nil] at ht
  have hsl := Sl.of_own hi.own
  refine ⟨ht, ⟨by rw [hi.len]; exact hsl.le, hsl.max, hsl.nil⟩, fun h0 => ?_, fun bb oo e => ?_⟩
  · obtain ⟨bb, oo, e, _⟩ := hsl.cells (by rw [← hi.len]; exact h0)
    exact ⟨bb, oo, e⟩
  · subst e
    have hl := hi.own.lt bb rfl
    refine Fo.at_of ⟨hl.1, hl.2⟩ hl.2 (fun j u hu => ?_) (Fo.subs_mono (fun b hb => ⟨hb.1, hb.2.1⟩) hi.subs)
    have hpos : 0 < k := by
      have := (List.getElem?_eq_some_iff.1 hu).1
      rw [Fo.tops_len, hi.len] at this
      omega
    obtain ⟨b2, o2, e, _, hc⟩ := hsl.cells hpos
    simp only [Option.some.injEq, Addr.mk.injEq, and_true] at e
    obtain ⟨rfl, rfl⟩ := e
    exact hc j u hu
/-- Seven cells stored, one by one. -/
def set7 (w : World) (g : Nat) (b0 b1 b2 b3 b4 b5 b6 : Value) : World := ((((((w.setCell ⟨g, 0, none⟩ b0).setCell ⟨g, 1, none⟩ b1).setCell ⟨g, 2, none⟩ b2).setCell ⟨g, 3, none⟩ b3).setCell ⟨g, 4, none⟩ b4).setCell ⟨g, 5, none⟩ b5).setCell ⟨g, 6, none⟩ b6
theorem set7_blk {w : World} {g : Nat} {t : TypeId} {a0 a1 a2 a3 a4 a5 a6 : Value} (h : Blk w g t #[a0, a1, a2, a3, a4, a5, a6]) (b0 b1 b2 b3 b4 b5 b6 : Value) : Blk (set7 w g b0 b1 b2 b3 b4 b5 b6) g t #[b0, b1, b2, b3, b4, b5, b6] := by
  have h7 := ((((((h.set 0 b0).set 1 b1).set 2 b2).set 3 b3).set 4 b4).set 5 b5).set 6 b6
  simpa [set7] using h7
theorem set7_fr (w : World) (g : Nat) (b0 b1 b2 b3 b4 b5 b6 : Value) : Fr (Only g) w (set7 w g b0 b1 b2 b3 b4 b5 b6) :=
  (((((((Fr.refl (Only g) w).setCell (p := ⟨g, 0, none⟩) (fun _ => rfl) b0).setCell (p := ⟨g, 1, none⟩) (fun _ => rfl) b1).setCell (p := ⟨g, 2, none⟩) (fun _ => rfl) b2).setCell (p := ⟨g, 3, none⟩) (fun _ => rfl) b3).setCell (p := ⟨g, 4, none⟩) (fun _ => rfl) b4).setCell (p := ⟨g, 5, none⟩) (fun _ => rfl) b5).setCell (p := ⟨g, 6, none⟩) (fun _ => rfl) b6
theorem infoRF : (Tryz.prog.info? 39).map (fun i => (i.zero, i.size, i.bytes)) = some (some (.agg #[.int .i64 0, .string default, .int .i64 0, .int .i64 0, .int .i64 0, .int .i64 0, .slice none 0 0]), 7, 80) := by kernel_rfl
set_option maxRecDepth 100000 in
set_option maxHeartbeats 8000000 in
theorem law_plain : ∀ (m : Nat) (N : Nat) (w : World) (x : Nd) (B : Option Addr) (d : Nat) (ks : Fo), ks.tr.size ≤ m → ks.tr.size ≤ 100000 → FoSl N w B d ks → N ≤ w.heap.size →
    Calls Tryz.prog 13 #[fval x B ks.len d] w fun e w' => ∃ A c ks', e = .returned (fval x A ks'.len c) ∧ ks'.tr = ks.tr ∧ FoSlP (fun b => w.heap.size ≤ b ∧ b < w'.heap.size) w' A c ks' ∧ Fr Nob w w' := by
  intro m
  induction m using Nat.strongRecOn with
  | _ m ih =>
    intro N w x B d ks hm hb hs hN
    obtain ⟨i0, hi0, hz0, hz1, hz2⟩ := info_parts infoRF
    have IH := Lib.hid ih
    have HS := Lib.hid hs
    have hlen := ks.len_size
    clear ih hs
    unfold fval at *
    go_enter Tryz.func13, Tryz.ntmps13
    go_wp2_with fail
    have HI := Lib.hid (show PlI w (((w.alloc (.cells #[.int .i64 x.op, .string x.name, .int .i64 x.cmp, .int .i64 x.val, .int .i64 x.lo, .int .i64 x.hi, .slice B ks.len d] 28)).alloc (.cells #[.int .i64 0, .string default, .int .i64 0, .int .i64 0, .int .i64 0, .int .i64 0, .slice none 0 0] 39)).alloc (.cells #[.int .i64 x.op, .string x.name, .int .i64 x.cmp, .int .i64 x.val, .int .i64 x.lo, .int .i64 x.hi, .slice none 0 0] 39)) x B d ks 0 none 0 .nil from
      ⟨(((Fr.refl _ _).alloc _).alloc _).alloc _, ((Blk.new _ _ _).alloc _).alloc _, (Blk.new_eq (by simp)).alloc _, Blk.new_eq (by simp), ⟨rfl, .inl ⟨rfl, rfl⟩⟩, rfl, trivial, by rw [Fo.get_zero]; rfl⟩)
    go_loopw [4] (fun i wr => ∃ (k : Nat) (A : Option Addr) (c : Nat) (ks1 : Fo), k ≤ ks.len ∧ i = .int .i64 k ∧ Hid (PlI w wr x B d ks k A c ks1)) (fun i _ => ks.len - (intOf i).toNat)
    case atStart => exact ⟨0, none, 0, .nil, Nat.zero_le _, rfl, HI⟩
    case round =>
      clear HI
      obtain ⟨k, A, c, ks1, hk, rfl, hi⟩ := hrel
      have e1 : w.heap.size + 1 + 1 = w.heap.size + 2 := rfl
      have hbl := Blk.lt hi.out.xbox
      have e6 : wr.cell? ⟨w.heap.size, 6, none⟩ = some (.slice B ks.len d) := hi.out.fbox.cell 6
      by_cases hlt : k < ks.len
      · have hI : (k : Int) < ks.len := by omega
        have hI3 : 0 ≤ (k : Int) := by omega
        obtain ⟨b, off, y, B2, d2, js, rs, K⟩ := (HS.out.fr hi.out.fr).kid hlt
        obtain ⟨d0, d1, d2', d3, d4, d5, d6⟩ := K.nd
        obtain rfl := K.slice
        have hlt2 := K.lt
        have hbN := K.bN
        have hsz := K.size
        have hg := K.get
        have hg2 := Fo.get_succ hg
        have HC := Lib.hid (fun W (h : Fr Nob wr W) => IH.out js.tr.size (by omega) N W y B2 d2 js (Nat.le_refl _) (by omega) (K.sl.fr h) (by have := h.size; have := hi.out.fr.size; omega))
        have HG := Lib.hid (show (ks.get k).tr = .cons y js.tr (ks.get (k + 1)).tr by rw [hg, hg2]; rfl)
        have x6 : wr.cell? ⟨w.heap.size + 2, 6, none⟩ = some (.slice A k c) := hi.out.xbox.cell 6
        have xf := hi.out.xbox.frozen 6
        have HRB := Lib.hid (fun q (hq : (Value.slice A k c).ownBlock = some q) => (hi.out.own.lt q hq).1)
        have HOW := Lib.hid hi.out.own
        have HXB := Lib.hid hi.out.xbox
        have HDR := Lib.hid (show Fr Nob wr wr.drew from (Fr.refl _ _).drew)
        have hbw := hi.out.fr.size
        clear hg hg2 K
        go_wp2_with fail
        go_region_law
          (first
            | (rw [if_pos (by rfl)]; go_simp; (go_at_call 13); refine (HC.out _ (Fr.drew (Fr.refl _ _))).mono ?_; rintro e w2 ⟨A3, c3, js', rfl, htr, hsl, hf2⟩; have HTR := Lib.hid htr; have HSL := Lib.hid hsl; have HF2 := Lib.hid hf2; have hw2 : wr.heap.size ≤ w2.heap.size := (HDR.out.call hf2 (fun _ h _ => h)).size; have hbl2 : w.heap.size + 2 < w2.heap.size := by omega
               have x6' : w2.cell? ⟨w.heap.size + 2, 6, none⟩ = some (.slice A k c) := (HDR.out.call hf2 (fun _ h _ => h)).cell x6 (fun e => e); clear htr hsl; go_simp)
            | (refine step_append_lies (w2.alloc (.cells #[.int .i64 y.op, .string y.name, .int .i64 y.cmp, .int .i64 y.val, .int .i64 y.lo, .int .i64 y.hi, .slice A3 js'.len c3] 39)) (by rfl) _ _ _ (by rfl) (w.heap.size + 3) 39 i0 _ 7 80 Tryz.underlying37 hi0 hz0 hz1 hz2 (by rfl) (by decide) (.slice A k c) k ks1.tops (by rfl) (World.ownsRow.alloc (own_fr HOW.out (HDR.out.call HF2.out (fun _ h _ => h)) (fun _ _ _ _ e => e)) _) ⟨w2.heap.size, 0, none⟩ 1 1 (fcs y A3 js'.len c3) (by rfl) (by rfl) (World.news_of_block (heap_alloc_new w2 _)) (nd_one _ _ _ _) (by decide) (by unfold maxLen; omega) (by omega) (by simp at hw2 ⊢; omega) (w2.heap.size + 1) (by simp) ?_
               intro g4 c4 w4 hown4 hgr hat4 hlt4
               have hfar : ∀ q, q < w.heap.size + 3 → some q ≠ (Value.slice A k c).ownBlock := fun q hq e => by have := HRB.out q e.symm; omega
               have hx4b := ((((HXB.out.fr HDR.out (fun e => e)).fr HF2.out (fun e => e)).alloc (.cells #[.int .i64 y.op, .string y.name, .int .i64 y.cmp, .int .i64 y.val, .int .i64 y.lo, .int .i64 y.hi, .slice A3 js'.len c3] 39)).grown hgr (fun e => hfar (w.heap.size + 2) (by omega) e.symm))
               have hx4 := hx4b.frozen 6
               have hx4c : w4.cell? ⟨w.heap.size + 2, 6, none⟩ = some (.slice A k c) := hx4b.cell 6
               have HO4 := Lib.hid hown4
               have HG4 := Lib.hid hgr
               have HA4 := Lib.hid hat4
               clear hown4 hat4))
        all_goals
          have HI2 := Lib.hid (PlI.step hi.out HG.out (HDR.out.call HF2.out (fun _ h _ => h)) HTR.out HSL.out HG4.out HO4.out HA4.out)
          clear hi HSL HF2 HG4 HO4 HA4 hgr
          go_wp2_with fail
          go_roundw
          case rel => exact ⟨k + 1, _, _, _, by omega, by go_num, HI2⟩
          case measure => simp [intOf]; omega
      · have x0 : wr.cell? ⟨w.heap.size + 2, 0, none⟩ = some (.int .i64 x.op) := hi.out.xbox.cell 0
        have x1 : wr.cell? ⟨w.heap.size + 2, 1, none⟩ = some (.string x.name) := hi.out.xbox.cell 1
        have x2 : wr.cell? ⟨w.heap.size + 2, 2, none⟩ = some (.int .i64 x.cmp) := hi.out.xbox.cell 2
        have x3 : wr.cell? ⟨w.heap.size + 2, 3, none⟩ = some (.int .i64 x.val) := hi.out.xbox.cell 3
        have x4 : wr.cell? ⟨w.heap.size + 2, 4, none⟩ = some (.int .i64 x.lo) := hi.out.xbox.cell 4
        have x5 : wr.cell? ⟨w.heap.size + 2, 5, none⟩ = some (.int .i64 x.hi) := hi.out.xbox.cell 5
        have x6 : wr.cell? ⟨w.heap.size + 2, 6, none⟩ = some (.slice A k c) := hi.out.xbox.cell 6
        have rc := hi.out.rbox.cell
        have rf := hi.out.rbox.frozen
        obtain ⟨htr, hsl⟩ := hi.out.done (Fo.get_end (by omega))
        have HTR := Lib.hid htr
        have HSL := Lib.hid hsl
        have HLN := Lib.hid hi.out.len
        have HB7 := Lib.hid (set7_blk hi.out.rbox (.int .i64 x.op) (.string x.name) (.int .i64 x.cmp) (.int .i64 x.val) (.int .i64 x.lo) (.int .i64 x.hi) (.slice A k c))
        have HF7 := Lib.hid (set7_fr wr (w.heap.size + 1) (.int .i64 x.op) (.string x.name) (.int .i64 x.cmp) (.int .i64 x.val) (.int .i64 x.lo) (.int .i64 x.hi) (.slice A k c))
        have HFR := Lib.hid hi.out.fr
        clear htr hsl hi
        go_wp2_with fail
        change bodyPost _ _ _ _ _ (set7 wr (w.heap.size + 1) (.int .i64 x.op) (.string x.name) (.int .i64 x.cmp) (.int .i64 x.val) (.int .i64 x.lo) (.int .i64 x.hi) (.slice A k c))
        generalize set7 wr (w.heap.size + 1) (.int .i64 x.op) (.string x.name) (.int .i64 x.cmp) (.int .i64 x.val) (.int .i64 x.lo) (.int .i64 x.hi) (.slice A k c) = W7 at *
        have E0 := HB7.out.cell 0
        have E1 := HB7.out.cell 1
        have E2 := HB7.out.cell 2
        have E3 := HB7.out.cell 3
        have E4 := HB7.out.cell 4
        have E5 := HB7.out.cell 5
        have E6 := HB7.out.cell 6
        have HF8 := HF7.out
        clear rc rf x0 x1 x2 x3 x4 x5 x6 e6
        refine bodyPost_ret (v := .agg #[.int .i64 x.op, .string x.name, .int .i64 x.cmp, .int .i64 x.val, .int .i64 x.lo, .int .i64 x.hi, .slice A k c]) (by simp [results, Tryz.results13, go_sem, E0, E1, E2, E3, E4, E5, E6]) rfl ⟨A, c, ks1, by rw [HLN.out], HTR.out, ?_, HFR.out.call HF8 (fun i e hlt => by have : i = w.heap.size + 1 := e; omega)⟩
        exact (HSL.out.keep (fun b hb hlt => HF8.block b hlt (fun e => by have : b = w.heap.size + 1 := e; have := hb.1; omega))).mono (fun b hb => ⟨by have := hb.1; omega, by have := hb.2; have := HF8.size; omega⟩)
end Go.Proofs.YtoegdmpmagbaiaaGreatDoor

/- Formulas that are not too great; copies of formulas. -/
namespace Go.Proofs.YtoegdmpmagbaiaaGreatDoor
open Go.RowKit Go.Shelf Go.Sort

/-- A callee that reads and makes memory, met in a region that draws its order. -/
theorem regr {f : FuncId} {args : Array Value} {W : World} {v : Value} (h : ∀ X, Fr Nob W X → Calls Tryz.prog f args X fun e w' => e = .returned v ∧ Fr Nob X w') (d : Nat) (os : Array Obj) :
    Calls Tryz.prog f args (grow (redrawn W d) os) fun e w'' => e = .returned v ∧ ∃ p : Regrown, w'' = grow (redrawn W p.d) p.os :=
  Calls.regrown_of ((h _ (Fr.of_below (below_regrown W d os))).mono fun _ _ ⟨h1, h2⟩ => ⟨h1, h2.below⟩)
theorem shortN_nodes (t : Tr) : t.shortN → ∀ d, ∀ y ∈ t.nodes d, y.1.name.size ≤ 40 := by
  induction t with
  | nil => intro _ d y hy; simp [Tr.nodes] at hy
  | cons x k r ihk ihr =>
    rintro ⟨h1, h2, h3⟩ d y hy
    simp only [Tr.nodes, List.mem_cons, List.mem_append] at hy
    rcases hy with rfl | hy | hy
    · exact h1
    · exact ihk h2 _ y hy
    · exact ihr h3 _ y hy
theorem shortN_wt (t : Tr) : t.shortN → t.wt ≤ t.size * 140 := by
  induction t with
  | nil => intro _; exact Nat.le_refl _
  | cons x k r ihk ihr =>
    rintro ⟨h1, h2, h3⟩
    have := ihk h2; have := ihr h3
    simp only [Tr.wt, Tr.size]; omega
/-- What a formula that is not too great gives. -/
structure Few (x : Nd) (ks : Tr) (n : Nat) : Prop where
  size : ks.size + 1 ≤ n
  names : ∀ y ∈ (Tr.cons x ks .nil).nodes 1, y.1.name.size ≤ 9223372036854775807
  wt : x.name.size + ks.wt ≤ 140 * n
theorem few_of {x : Nd} {ks : Tr} {n : Nat} (h : 0 < left1 x ks n) : Few x ks n := by
  obtain ⟨h1, h2, h3⟩ := left1_pos h
  refine ⟨h1, fun y hy => ?_, ?_⟩
  · have := shortN_nodes (.cons x ks .nil) ⟨h2, h3, trivial⟩ 1 y hy
    omega
  · have := shortN_wt ks h3; omega
/-- A copy that plain makes. -/
structure Cp (w w' : World) (x : Nd) (ks : Fo) (A : Option Addr) (c : Nat) (ks' : Fo) : Prop where
  tr : ks'.tr = ks.tr
  sl : FoSl w'.heap.size w' A c ks'
  fr : Fr Nob w w'
theorem law_plain' (w : World) (x : Nd) (B : Option Addr) (d : Nat) (ks : Fo) (hsz : ks.tr.size ≤ 100000) (hs : FoSl w.heap.size w B d ks) :
    Calls Tryz.prog 13 #[fval x B ks.len d] w fun e w' => ∃ A c ks', e = .returned (fval x A (Fo.len ks') c) ∧ Cp w w' x ks A c ks' :=
  (law_plain ks.tr.size w.heap.size w x B d ks (Nat.le_refl _) hsz hs (Nat.le_refl _)).mono fun _ _ ⟨A, c, ks', h1, h2, h3, h4⟩ => ⟨A, c, ks', h1, h2, h3.sl (fun _ hk => hk.2), h4⟩
end Go.Proofs.YtoegdmpmagbaiaaGreatDoor
