/- parse's reader: atom. -/
import Derived.Test.YtfebkjoohnlifaaDoorQ5
import Derived.Deep.DeepCutAuto
namespace Go.Proofs.YtfebkjoohnlifaaDoor
open Go.RowKit Go.Shelf

theorem cells7b {w : World} {b : Nat} {t : TypeId} {v0 v1 v2 v3 v4 v5 v6 : Value} (hb : Blk w b t #[v0, v1, v2, v3, v4, v5, v6]) : w.cell? ⟨b, 0, none⟩ = some v0 ∧ w.cell? ⟨b, 1, none⟩ = some v1 ∧ w.cell? ⟨b, 2, none⟩ = some v2 ∧ w.cell? ⟨b, 3, none⟩ = some v3 ∧ w.cell? ⟨b, 4, none⟩ = some v4 ∧ w.cell? ⟨b, 5, none⟩ = some v5 ∧ w.cell? ⟨b, 6, none⟩ = some v6 :=
  ⟨hb.cell 0, hb.cell 1, hb.cell 2, hb.cell 3, hb.cell 4, hb.cell 5, hb.cell 6⟩
theorem cells7f {S : Nat → Prop} {w W : World} {b : Nat} {v0 v1 v2 v3 v4 v5 v6 : Value} (hf : Fr S w W) (hS : ¬ S b)
    (h : w.cell? ⟨b, 0, none⟩ = some v0 ∧ w.cell? ⟨b, 1, none⟩ = some v1 ∧ w.cell? ⟨b, 2, none⟩ = some v2 ∧ w.cell? ⟨b, 3, none⟩ = some v3 ∧ w.cell? ⟨b, 4, none⟩ = some v4 ∧ w.cell? ⟨b, 5, none⟩ = some v5 ∧ w.cell? ⟨b, 6, none⟩ = some v6) :
    W.cell? ⟨b, 0, none⟩ = some v0 ∧ W.cell? ⟨b, 1, none⟩ = some v1 ∧ W.cell? ⟨b, 2, none⟩ = some v2 ∧ W.cell? ⟨b, 3, none⟩ = some v3 ∧ W.cell? ⟨b, 4, none⟩ = some v4 ∧ W.cell? ⟨b, 5, none⟩ = some v5 ∧ W.cell? ⟨b, 6, none⟩ = some v6 :=
  ⟨hf.cell h.1 hS, hf.cell h.2.1 hS, hf.cell h.2.2.1 hS, hf.cell h.2.2.2.1 hS, hf.cell h.2.2.2.2.1 hS, hf.cell h.2.2.2.2.2.1 hS, hf.cell h.2.2.2.2.2.2 hS⟩
theorem cells7s {W : World} {b z : Nat} {v0 v1 v2 v3 v4 v5 v6 : Value} (hS : b ≠ z)
    (h : W.cell? ⟨b, 0, none⟩ = some v0 ∧ W.cell? ⟨b, 1, none⟩ = some v1 ∧ W.cell? ⟨b, 2, none⟩ = some v2 ∧ W.cell? ⟨b, 3, none⟩ = some v3 ∧ W.cell? ⟨b, 4, none⟩ = some v4 ∧ W.cell? ⟨b, 5, none⟩ = some v5 ∧ W.cell? ⟨b, 6, none⟩ = some v6) (b0 b1 b2 b3 b4 b5 b6 : Value) :
    (((((((W.setCell ⟨z, 0, none⟩ b0).setCell ⟨z, 1, none⟩ b1).setCell ⟨z, 2, none⟩ b2).setCell ⟨z, 3, none⟩ b3).setCell ⟨z, 4, none⟩ b4).setCell ⟨z, 5, none⟩ b5).setCell ⟨z, 6, none⟩ b6).cell? ⟨b, 0, none⟩ = some v0 ∧ (((((((W.setCell ⟨z, 0, none⟩ b0).setCell ⟨z, 1, none⟩ b1).setCell ⟨z, 2, none⟩ b2).setCell ⟨z, 3, none⟩ b3).setCell ⟨z, 4, none⟩ b4).setCell ⟨z, 5, none⟩ b5).setCell ⟨z, 6, none⟩ b6).cell? ⟨b, 1, none⟩ = some v1 ∧
    (((((((W.setCell ⟨z, 0, none⟩ b0).setCell ⟨z, 1, none⟩ b1).setCell ⟨z, 2, none⟩ b2).setCell ⟨z, 3, none⟩ b3).setCell ⟨z, 4, none⟩ b4).setCell ⟨z, 5, none⟩ b5).setCell ⟨z, 6, none⟩ b6).cell? ⟨b, 2, none⟩ = some v2 ∧ (((((((W.setCell ⟨z, 0, none⟩ b0).setCell ⟨z, 1, none⟩ b1).setCell ⟨z, 2, none⟩ b2).setCell ⟨z, 3, none⟩ b3).setCell ⟨z, 4, none⟩ b4).setCell ⟨z, 5, none⟩ b5).setCell ⟨z, 6, none⟩ b6).cell? ⟨b, 3, none⟩ = some v3 ∧
    (((((((W.setCell ⟨z, 0, none⟩ b0).setCell ⟨z, 1, none⟩ b1).setCell ⟨z, 2, none⟩ b2).setCell ⟨z, 3, none⟩ b3).setCell ⟨z, 4, none⟩ b4).setCell ⟨z, 5, none⟩ b5).setCell ⟨z, 6, none⟩ b6).cell? ⟨b, 4, none⟩ = some v4 ∧ (((((((W.setCell ⟨z, 0, none⟩ b0).setCell ⟨z, 1, none⟩ b1).setCell ⟨z, 2, none⟩ b2).setCell ⟨z, 3, none⟩ b3).setCell ⟨z, 4, none⟩ b4).setCell ⟨z, 5, none⟩ b5).setCell ⟨z, 6, none⟩ b6).cell? ⟨b, 5, none⟩ = some v5 ∧
    (((((((W.setCell ⟨z, 0, none⟩ b0).setCell ⟨z, 1, none⟩ b1).setCell ⟨z, 2, none⟩ b2).setCell ⟨z, 3, none⟩ b3).setCell ⟨z, 4, none⟩ b4).setCell ⟨z, 5, none⟩ b5).setCell ⟨z, 6, none⟩ b6).cell? ⟨b, 6, none⟩ = some v6 :=
  cells7f (set7_fr W z b0 b1 b2 b3 b4 b5 b6) (fun e => hS e) h
theorem Fr.set9 {S : Nat → Prop} {a w : World} (h : Fr S a w) {p : Addr} (hp : S p.block) (v : Value) : Fr S a (w.setCell p v) := h.setCell (fun _ => hp) v
theorem zlater9 (w1 : World) (t : TypeId) (v0 v1 v2 v3 v4 v5 v6 : Value) :
    ((∀ o, ((w1.alloc (.cells #[v0, v1, v2, v3, v4, v5, v6] t)).alloc o).cell? ⟨w1.heap.size, 0, none⟩ = some v0) ∧ (∀ o, ((w1.alloc (.cells #[v0, v1, v2, v3, v4, v5, v6] t)).alloc o).cell? ⟨w1.heap.size, 1, none⟩ = some v1) ∧ (∀ o, ((w1.alloc (.cells #[v0, v1, v2, v3, v4, v5, v6] t)).alloc o).cell? ⟨w1.heap.size, 2, none⟩ = some v2) ∧ (∀ o, ((w1.alloc (.cells #[v0, v1, v2, v3, v4, v5, v6] t)).alloc o).cell? ⟨w1.heap.size, 3, none⟩ = some v3) ∧ (∀ o, ((w1.alloc (.cells #[v0, v1, v2, v3, v4, v5, v6] t)).alloc o).cell? ⟨w1.heap.size, 4, none⟩ = some v4) ∧ (∀ o, ((w1.alloc (.cells #[v0, v1, v2, v3, v4, v5, v6] t)).alloc o).cell? ⟨w1.heap.size, 5, none⟩ = some v5) ∧ (∀ o, ((w1.alloc (.cells #[v0, v1, v2, v3, v4, v5, v6] t)).alloc o).cell? ⟨w1.heap.size, 6, none⟩ = some v6)) ∧
    ((∀ o, ((w1.alloc (.cells #[v0, v1, v2, v3, v4, v5, v6] t)).alloc o).frozen? ⟨w1.heap.size, 0, none⟩ = false) ∧ (∀ o, ((w1.alloc (.cells #[v0, v1, v2, v3, v4, v5, v6] t)).alloc o).frozen? ⟨w1.heap.size, 1, none⟩ = false) ∧ (∀ o, ((w1.alloc (.cells #[v0, v1, v2, v3, v4, v5, v6] t)).alloc o).frozen? ⟨w1.heap.size, 2, none⟩ = false) ∧ (∀ o, ((w1.alloc (.cells #[v0, v1, v2, v3, v4, v5, v6] t)).alloc o).frozen? ⟨w1.heap.size, 3, none⟩ = false) ∧ (∀ o, ((w1.alloc (.cells #[v0, v1, v2, v3, v4, v5, v6] t)).alloc o).frozen? ⟨w1.heap.size, 4, none⟩ = false) ∧ (∀ o, ((w1.alloc (.cells #[v0, v1, v2, v3, v4, v5, v6] t)).alloc o).frozen? ⟨w1.heap.size, 5, none⟩ = false) ∧ (∀ o, ((w1.alloc (.cells #[v0, v1, v2, v3, v4, v5, v6] t)).alloc o).frozen? ⟨w1.heap.size, 6, none⟩ = false)) := by
  have h := fun o => (Blk.new w1 t #[v0, v1, v2, v3, v4, v5, v6]).alloc o
  exact ⟨⟨fun o => (h o).cell 0, fun o => (h o).cell 1, fun o => (h o).cell 2, fun o => (h o).cell 3, fun o => (h o).cell 4, fun o => (h o).cell 5, fun o => (h o).cell 6⟩, fun o => (h o).frozen 0, fun o => (h o).frozen 1, fun o => (h o).frozen 2, fun o => (h o).frozen 3, fun o => (h o).frozen 4, fun o => (h o).frozen 5, fun o => (h o).frozen 6⟩
theorem zboxo {w w1 : World} {R g : Nat} (hR : ¬ Only R g) {t : TypeId} {v0 v1 v2 v3 v4 v5 v6 : Value} (hf : Fr (Only R) (w.alloc (.cells #[v0, v1, v2, v3, v4, v5, v6] t)).drew w1) (hg : g = w.heap.size) :
    (w1.cell? ⟨g, 0, none⟩ = some v0 ∧ w1.cell? ⟨g, 1, none⟩ = some v1 ∧ w1.cell? ⟨g, 2, none⟩ = some v2 ∧ w1.cell? ⟨g, 3, none⟩ = some v3 ∧ w1.cell? ⟨g, 4, none⟩ = some v4 ∧ w1.cell? ⟨g, 5, none⟩ = some v5 ∧ w1.cell? ⟨g, 6, none⟩ = some v6) ∧
    (w1.frozen? ⟨g, 0, none⟩ = false ∧ w1.frozen? ⟨g, 1, none⟩ = false ∧ w1.frozen? ⟨g, 2, none⟩ = false ∧ w1.frozen? ⟨g, 3, none⟩ = false ∧ w1.frozen? ⟨g, 4, none⟩ = false ∧ w1.frozen? ⟨g, 5, none⟩ = false ∧ w1.frozen? ⟨g, 6, none⟩ = false) := by
  have h := (Blk.new_eq (t := t) (cs := #[v0, v1, v2, v3, v4, v5, v6]) hg).drew.fr hf hR
  exact ⟨⟨h.cell 0, h.cell 1, h.cell 2, h.cell 3, h.cell 4, h.cell 5, h.cell 6⟩, h.frozen 0, h.frozen 1, h.frozen 2, h.frozen 3, h.frozen 4, h.frozen 5, h.frozen 6⟩
theorem fosl_nil (q : Nat → Prop) (w : World) : FoSlP q w none 0 .nil := ⟨⟨Nat.le_refl _, by decide, fun _ => rfl⟩, fun h => absurd h (Nat.lt_irrefl _), fun _ _ e => by cases e⟩
/-- Behind the atom's first part: its node lies in a box of its own. -/
def AtomR (W : World) (R : Nat) (A : Option Addr) (c : Nat) (toks : List (TK × Nat)) (k : Nat) (tx : List UInt8) (cm : Int) (s : Value) (wm : World) : Prop :=
  ∃ G, s = .pointer (some ⟨G, 0, none⟩) ∧ W.heap.size < G ∧ Blk wm W.heap.size 28 #[.int .i64 0, .string ⟨#[]⟩, .int .i64 0, .int .i64 0, .int .i64 0, .int .i64 0, .slice none 0 0] ∧
    Blk wm G 28 #[.int .i64 3, .string ⟨tx.toArray⟩, .int .i64 cm, .int .i64 0, .int .i64 0, .int .i64 0, .slice none 0 0] ∧ Rdr wm R A c toks k 0 0 ∧ Fr (Only R) W wm
theorem AtomR.after {W wa w5 : World} {R : Nat} {A : Option Addr} {c : Nat} {toks : List (TK × Nat)} {k0 k : Nat} {tx : List UInt8} {cm : Int} (h0 : Rdr W R A c toks k0 0 0) (hz : Blk wa W.heap.size 28 #[.int .i64 0, .string ⟨#[]⟩, .int .i64 0, .int .i64 0, .int .i64 0, .int .i64 0, .slice none 0 0])
    (hf : Fr (Only R) W wa) (hl : W.heap.size < wa.heap.size) (h5 : Fr (Only R) wa.drew w5) (hr : Rdr w5 R A c toks k 0 0) :
    AtomR W R A c toks k tx cm (.pointer (some ⟨w5.heap.size, 0, none⟩)) (w5.alloc (.cells #[.int .i64 3, .string ⟨tx.toArray⟩, .int .i64 cm, .int .i64 0, .int .i64 0, .int .i64 0, .slice none 0 0] 28)) := by
  have hs := h5.size
  have hR := h0.blk.lt
  exact ⟨w5.heap.size, rfl, by have : wa.heap.size ≤ w5.heap.size := hs; omega, (hz.drew.fr h5 (only_ne hR)).alloc _, Blk.new _ _ _, hr.fr ((Fr.refl _ _).alloc _), (hf.drew.call h5 (fun _ h _ => h)).alloc _⟩
theorem AtomR.before {W wa w5 : World} {R : Nat} {A : Option Addr} {c : Nat} {toks : List (TK × Nat)} {k0 k : Nat} {tx : List UInt8} {cm : Int} {v0 v1 v2 v3 v4 v5 v6 : Value} (h0 : Rdr W R A c toks k0 0 0) (hz : Blk wa W.heap.size 28 #[.int .i64 0, .string ⟨#[]⟩, .int .i64 0, .int .i64 0, .int .i64 0, .int .i64 0, .slice none 0 0])
    (hf : Fr (Only R) W wa) (hl : W.heap.size < wa.heap.size) (h5 : Fr (Only R) (wa.alloc (.cells #[v0, v1, v2, v3, v4, v5, v6] 28)).drew w5) (hr : Rdr w5 R A c toks k 0 0) :
    AtomR W R A c toks k tx cm (.pointer (some ⟨wa.heap.size, 0, none⟩)) (set7 w5 wa.heap.size (.int .i64 3) (.string ⟨tx.toArray⟩) (.int .i64 cm) (.int .i64 0) (.int .i64 0) (.int .i64 0) (.slice none 0 0)) := by
  have hR := h0.blk.lt
  have hb : Blk w5 wa.heap.size 28 #[v0, v1, v2, v3, v4, v5, v6] := (Blk.new wa _ _).drew.fr h5 (only_ne (by omega))
  have h7 := set7_fr w5 wa.heap.size (.int .i64 3) (.string ⟨tx.toArray⟩) (.int .i64 cm) (.int .i64 0) (.int .i64 0) (.int .i64 0) (.slice none 0 0)
  have hz5 : Blk w5 W.heap.size 28 #[.int .i64 0, .string ⟨#[]⟩, .int .i64 0, .int .i64 0, .int .i64 0, .int .i64 0, .slice none 0 0] := (hz.alloc _).drew.fr h5 (only_ne hR)
  exact ⟨wa.heap.size, rfl, hl, hz5.fr h7 (by unfold Only; omega), set7_blk hb _ _ _ _ _ _ _, h0.new hr h7 (only_new (by omega)), ((hf.alloc _).drew.call h5 (fun _ h _ => h)).call h7 (fun i h hlt => by unfold Only at h; omega)⟩
theorem cmp_next {toks : List (TK × Nat)} {k : Nat} (ht : Toks toks) (hk : k < toks.length) (h : ¬ cmpOf toks[k].1 = 0) : k + 1 < toks.length := by
  refine next_lt ht hk (fun e => h ?_)
  unfold cmpOf
  rw [if_neg (by omega)]
set_option maxRecDepth 100000 in
set_option maxHeartbeats 4000000 in
theorem atom_num (R : Nat) (A : Option Addr) (c : Nat) (toks : List (TK × Nat)) (ht : Toks toks) (W : World) (k : Nat) (h : Rdr W R A c toks k 0 0) (hk : k < toks.length) (h1 : tsg toks[k] [40] = false) (hkd : toks[k].1.kind = 1) (he1 : ¬ toks[k].1.text = trueW) (he2 : ¬ toks[k].1.text = falseW) (hk1 : k + 1 < toks.length) (cm : Int) (hcm : cmpOf toks[k + 1].1 = cm) (hc0 : ¬ cm = 0) (q : Nat) (hq : k + 1 + 1 = q) :
    Calls Tryd.prog 232 #[.pointer (some ⟨R, 0, none⟩)] W (SideR W R A c toks (if ¬ (hd (remT toks q)).kind = 2 then .bad 20 (remT toks q) else .ok ⟨3, ⟨toks[k].1.text.toArray⟩, cm, (hd (remT toks q)).num, 0, 0⟩ .nil (remT toks (q + 1)))) := by
  have hR := h.blk.lt
  have hOR : ¬ Only R W.heap.size := only_ne hR
  have H0 := Lib.hid (fun X (hf : Fr Nob W X) => h.fr hf)
  have HRD := Lib.hid h
  have HT := Lib.hid (fun X (h : Rdr X R A c toks k 0 0) => take_no h ht hk h1)
  have HH := Lib.hid (fun X (h : Rdr X R A c toks k 0 0) => rd_head X R A c toks k 0 0 h hk)
  have hk6 : (k : Int) ≤ 600 := by have := ht.few; omega
  have HC := Lib.hid (fun X (h : Rdr X R A c toks (k + 1) 0 0) => rd_compare X R A c toks (k + 1) 0 0 h ht hk1)
  have hk2 : q < toks.length := hq ▸ cmp_next ht hk1 (by rw [hcm]; exact hc0)
  rw [hcm] at HC
  obtain ⟨t1, ht1⟩ : ∃ t, toks[k] = t := ⟨_, rfl⟩
  rw [ht1] at HH hkd he1 he2 ⊢
  clear ht1 h1
  obtain ⟨⟨kd1, tx1, nm1⟩, pl1⟩ := t1
  unfold tokV at HH
  dsimp only at HH hkd he1 he2 ⊢
  subst hkd
  have hw : (tx1 == [116, 114, 117, 101]) = false := by simpa [trueW] using he1
  have hw2 : (tx1 == [102, 97, 108, 115, 101]) = false := by simpa [falseW] using he2
  clear h he1 he2
  simp only [hc0, if_false, hq] at HC
  rw [remT_hd hk2]
  have hk26 : ((q : Nat) : Int) ≤ 600 := by have := ht.few; omega
  have HH2 := Lib.hid (fun X (h : Rdr X R A c toks (q) 0 0) => rd_head X R A c toks (q) 0 0 h hk2)
  have HW2 := Lib.hid (fun X (h : Rdr X R A c toks (q) 0 0) => rd_wrong X R A c toks (q) 0 0 h hk2 20)
  have HNX := Lib.hid (fun (hn : ¬ toks[q].1.kind = 0) => next_lt ht hk2 hn)
  obtain ⟨t2, ht2⟩ : ∃ t, toks[q] = t := ⟨_, rfl⟩
  rw [ht2] at HH2 HW2 HNX ⊢
  have HX2 := Lib.hid ht2
  clear ht2
  obtain ⟨⟨kd2, tx2, nm2⟩, pl2⟩ := t2
  unfold tokV at HH2
  dsimp only at HH2 HW2 HNX ⊢
  clear hcm
  clear hq
  by_cases hkd2 : kd2 = 2
  · subst hkd2
    rw [if_neg (by simp)]
    have hq1 : q + 1 < toks.length := HNX.out (by decide)
    unfold SideR fval
    go_enter Tryd.func232, Tryd.ntmps232
    go_upto_region 13 with (first
      | ((go_at_call 132); (with_reducible refine (HT.out _ (H0.out _ ((Fr.refl _ _).alloc _))).mono ?_); rintro en w1 ⟨rfl, hr1, hf1⟩; have HZ := Lib.hid ((Blk.new W 28 #[.int .i64 0, .string ⟨#[]⟩, .int .i64 0, .int .i64 0, .int .i64 0, .int .i64 0, .slice none 0 0]).fr hf1 hOR); have HFR := Lib.hid (((Fr.refl (Only R) W).alloc _).call hf1 (fun _ h _ => h)); have HR1 := Lib.hid hr1; have zc := HZ.out.cell; have zf := HZ.out.frozen; have zl := HZ.out.lt; have zl1 := Lib.hid zl; clear hr1 hf1)
      | ((go_at_call 46); (with_reducible refine (HH.out _ HR1.out).mono ?_); rintro en w2 ⟨rfl, hf2⟩; replace HZ := Lib.hid (HZ.out.fr hf2 (fun e => e)); replace HR1 := Lib.hid (HR1.out.fr hf2); replace HFR := Lib.hid (HFR.out.call hf2 (fun _ h _ => h.elim)); replace zc := HZ.out.cell; replace zf := HZ.out.frozen; replace zl := HZ.out.lt; have hz2 := HR1.out.blk.lt; have r2 := HR1.out.blk.cell 1; have q2 := HR1.out.blk.frozen 1; clear hf2)
      )
    obtain ⟨wa, hwa⟩ : ∃ wa, (w2.setCell ⟨R, 1, none⟩ (.int .i64 ((k : Int) + 1))).alloc (.cells #[.int .i64 1, .string ⟨tx1.toArray⟩, .int .i64 nm1, .int .i64 pl1] 90) = wa := ⟨_, rfl⟩
    have hGW : W.heap.size < w2.heap.size := zl
    have hRa : Rdr wa R A c toks (k + 1) 0 0 := by rw [← hwa]; exact (bump HR1.out).fr ((Fr.refl _ _).alloc _)
    have hZa : Blk wa W.heap.size 28 #[.int .i64 0, .string ⟨#[]⟩, .int .i64 0, .int .i64 0, .int .i64 0, .int .i64 0, .slice none 0 0] := by rw [← hwa]; exact (HZ.out.far (p := ⟨R, 1, none⟩) (Ne.symm (Nat.ne_of_lt hR)) _).alloc _
    have hFa : Fr (Only R) W wa := by rw [← hwa]; exact (fr_bump HFR.out).alloc _
    have hTa : Blk wa w2.heap.size 90 #[.int .i64 1, .string ⟨tx1.toArray⟩, .int .i64 nm1, .int .i64 pl1] := by rw [← hwa]; exact Blk.new_eq (by simp)
    rw [hwa]
    replace HZ := Lib.hid hZa
    replace HR1 := Lib.hid hRa
    replace HFR := Lib.hid hFa
    have HC0 := Lib.hid hTa
    have tc := hTa.cell
    replace zc := HZ.out.cell
    replace zf := HZ.out.frozen
    replace zl := HZ.out.lt
    clear hwa hRa hZa hFa hTa r2 q2 hz2
    go_cut [7] (fun s wm => AtomR W R A c toks (q) tx1 (cm) s wm)
    case first =>
      have hOT : ¬ Only R w2.heap.size := only_ne (by omega)
      have hOG : ¬ Only R wa.heap.size := only_ne (by omega)
      have hTl : w2.heap.size < wa.heap.size := HC0.out.lt
      have tc1 : wa.cell? ⟨w2.heap.size, 1, none⟩ = some (.string ⟨tx1.toArray⟩) := tc 1
      go_region_held3 (fun w' => w'.cell? ⟨w2.heap.size, 1, none⟩ = some (.string ⟨tx1.toArray⟩))
        (first | exact Fr.cell (S := fun k => wa.heap.size ≤ k) (w := w5) (by repeat' (first | with_reducible exact Fr.refl _ _ | with_reducible refine Fr.alloc ?_ _ | with_reducible refine Fr.set9 ?_ ?_ _ | exact Nat.le_refl _ | exact hz5)) hbx (Nat.not_le_of_lt hTl) | with_reducible exact hf5.cell (by assumption) hOT | go_keep)
        (first | ((go_at_call 238); refine (HC.out _ ?_).mono ?_; (first | exact HR1.out.drew | exact (HR1.out.fr ((Fr.refl _ _).alloc _)).drew); rintro en w5 ⟨rfl, hr5, hf5⟩; have hz5 : wa.heap.size ≤ w5.heap.size := (by have := hf5.size; first | (simp at this; omega) | simpa using this); have hbx : w5.cell? ⟨w2.heap.size, 1, none⟩ = some (.string ⟨tx1.toArray⟩) := hf5.cell (by assumption) hOT; obtain ⟨⟨x0, x1, x2, x3, x4, x5, x6⟩, ⟨n0, n1, n2, n3, n4, n5, n6⟩⟩ := zlater9 w5 28 (.int .i64 0) (.string ⟨#[]⟩) (.int .i64 0) (.int .i64 0) (.int .i64 0) (.int .i64 0) (.slice none 0 0); first | (have hzz := zboxo hOG (g := wa.heap.size) hf5 rfl; obtain ⟨⟨z0, z1, z2, z3, z4, z5, z6⟩, ⟨y0, y1, y2, y3, y4, y5, y6⟩⟩ := hzz; have hz9 := World.block_lt_of_cell? w5 _ z0; simp only at hz9) | skip))
      all_goals
        go_wp2_with fail
        go_meet
        first
          | with_reducible exact AtomR.after HRD.out HZ.out HFR.out zl hf5 hr5
          | exact AtomR.before HRD.out HZ.out HFR.out zl hf5 hr5
    case rest =>
      obtain ⟨G, rfl, hGW, hz, hg, hr, hf⟩ := hcut
      have HZ := Lib.hid hz
      have HG := Lib.hid hg
      have HR1 := Lib.hid hr
      have HFR := Lib.hid hf
      have hGZ : G ≠ W.heap.size := by omega
      have hOG : ¬ Only R G := only_ne (by omega)
      have zc := HZ.out.cell
      have zf := HZ.out.frozen
      have zl := HZ.out.lt
      have gc := HG.out.cell
      have gf := HG.out.frozen
      have gl := HG.out.lt
      clear hz hg hr hf
      go_upto_region 21 with (first
        | ((go_at_call 46); (with_reducible refine (HH2.out _ HR1.out).mono ?_); rintro en w6 ⟨rfl, hf2⟩; replace HZ := Lib.hid (HZ.out.fr hf2 (fun e => e)); replace HG := Lib.hid (HG.out.fr hf2 (fun e => e)); replace HR1 := Lib.hid (HR1.out.fr hf2); replace HFR := Lib.hid (HFR.out.call hf2 (fun _ h _ => h.elim)); replace zc := HZ.out.cell; replace zf := HZ.out.frozen; replace zl := HZ.out.lt; replace gc := HG.out.cell; replace gf := HG.out.frozen; replace gl := HG.out.lt; have hz2 := HR1.out.blk.lt; have r2 := HR1.out.blk.cell 1; have q2 := HR1.out.blk.frozen 1; clear hf2)
        )
      obtain ⟨wn, hwn⟩ : ∃ wn, ((w6.setCell ⟨R, 1, none⟩ (.int .i64 ((q : Int) + 1))).setCell ⟨G, 3, none⟩ (.int .i64 nm2)).alloc (.cells #[.int .i64 2, .string ⟨tx2.toArray⟩, .int .i64 nm2, .int .i64 pl2] 90) = wn := ⟨_, rfl⟩
      have hRn : Rdr wn R A c toks (q + 1) 0 0 := by rw [← hwn]; exact (HRD.out.new (bump HR1.out) (fr_only _ ⟨G, 3, none⟩ _) (only_new (by simp only; omega))).fr ((Fr.refl _ _).alloc _)
      have hZn : Blk wn W.heap.size 28 #[.int .i64 0, .string ⟨#[]⟩, .int .i64 0, .int .i64 0, .int .i64 0, .int .i64 0, .slice none 0 0] := by rw [← hwn]; exact ((HZ.out.far (p := ⟨R, 1, none⟩) (Ne.symm (Nat.ne_of_lt hR)) _).far (p := ⟨G, 3, none⟩) (Ne.symm hGZ) _).alloc _
      have hGn : Blk wn G 28 #[.int .i64 3, .string ⟨tx1.toArray⟩, .int .i64 cm, .int .i64 nm2, .int .i64 0, .int .i64 0, .slice none 0 0] := by
        rw [← hwn]
        have h3 := (HG.out.far (p := ⟨R, 1, none⟩) (fun e => hOG (by simp only at e; unfold Only; exact e)) (.int .i64 ((q : Int) + 1))).set 3 (.int .i64 nm2)
        exact (by simpa using h3 : Blk _ G 28 #[.int .i64 3, .string ⟨tx1.toArray⟩, .int .i64 cm, .int .i64 nm2, .int .i64 0, .int .i64 0, .slice none 0 0]).alloc _
      have hFn : Fr (Only R) W wn := by rw [← hwn]; exact (fr_new (fr_bump HFR.out) (p := ⟨G, 3, none⟩) (by simp only; omega) _).alloc _
      rw [hwn]
      replace HZ := Lib.hid hZn
      replace HR1 := Lib.hid hRn
      replace HFR := Lib.hid hFn
      replace zc := hZn.cell
      replace zf := hZn.frozen
      replace zl := hZn.lt
      replace gc := hGn.cell
      replace gl := hGn.lt
      clear hwn hRn hZn hGn hFn HG gf r2 q2 hz2
      have HB7 := Lib.hid (set7_blk HZ.out (.int .i64 3) (.string ⟨tx1.toArray⟩) (.int .i64 cm) (.int .i64 nm2) (.int .i64 0) (.int .i64 0) (.slice none 0 0))
      have HF7 := Lib.hid (set7_fr wn W.heap.size (.int .i64 3) (.string ⟨tx1.toArray⟩) (.int .i64 cm) (.int .i64 nm2) (.int .i64 0) (.int .i64 0) (.slice none 0 0))
      go_wp2_with fail
      change bodyPost _ _ _ _ _ (set7 wn W.heap.size (.int .i64 3) (.string ⟨tx1.toArray⟩) (.int .i64 cm) (.int .i64 nm2) (.int .i64 0) (.int .i64 0) (.slice none 0 0))
      generalize set7 wn W.heap.size (.int .i64 3) (.string ⟨tx1.toArray⟩) (.int .i64 cm) (.int .i64 nm2) (.int .i64 0) (.int .i64 0) (.slice none 0 0) = W7 at *
      have HS := HB7.out.cell
      refine bodyPost_ret (v := .tuple #[.agg #[.int .i64 3, .string ⟨tx1.toArray⟩, .int .i64 cm, .int .i64 nm2, .int .i64 0, .int .i64 0, .slice none 0 0], .bool true]) (by simp [results, Tryd.results232, go_sem, HS]) rfl ?_
      have hd := done7 HRD.out HFR.out HF7.out HR1.out
      exact ⟨none, 0, .nil, rfl, q + 1, hq1, rfl, rfl, fosl_nil _ _, hd.1, hd.2⟩
  · rw [if_pos hkd2]
    unfold SideR fval
    go_enter Tryd.func232, Tryd.ntmps232
    go_upto_region 13 with (first
      | ((go_at_call 132); (with_reducible refine (HT.out _ (H0.out _ ((Fr.refl _ _).alloc _))).mono ?_); rintro en w1 ⟨rfl, hr1, hf1⟩; have HZ := Lib.hid ((Blk.new W 28 #[.int .i64 0, .string ⟨#[]⟩, .int .i64 0, .int .i64 0, .int .i64 0, .int .i64 0, .slice none 0 0]).fr hf1 hOR); have HFR := Lib.hid (((Fr.refl (Only R) W).alloc _).call hf1 (fun _ h _ => h)); have HR1 := Lib.hid hr1; have zc := HZ.out.cell; have zf := HZ.out.frozen; have zl := HZ.out.lt; have zl1 := Lib.hid zl; clear hr1 hf1)
      | ((go_at_call 46); (with_reducible refine (HH.out _ HR1.out).mono ?_); rintro en w2 ⟨rfl, hf2⟩; replace HZ := Lib.hid (HZ.out.fr hf2 (fun e => e)); replace HR1 := Lib.hid (HR1.out.fr hf2); replace HFR := Lib.hid (HFR.out.call hf2 (fun _ h _ => h.elim)); replace zc := HZ.out.cell; replace zf := HZ.out.frozen; replace zl := HZ.out.lt; have hz2 := HR1.out.blk.lt; have r2 := HR1.out.blk.cell 1; have q2 := HR1.out.blk.frozen 1; clear hf2)
      )
    obtain ⟨wa, hwa⟩ : ∃ wa, (w2.setCell ⟨R, 1, none⟩ (.int .i64 ((k : Int) + 1))).alloc (.cells #[.int .i64 1, .string ⟨tx1.toArray⟩, .int .i64 nm1, .int .i64 pl1] 90) = wa := ⟨_, rfl⟩
    have hGW : W.heap.size < w2.heap.size := zl
    have hRa : Rdr wa R A c toks (k + 1) 0 0 := by rw [← hwa]; exact (bump HR1.out).fr ((Fr.refl _ _).alloc _)
    have hZa : Blk wa W.heap.size 28 #[.int .i64 0, .string ⟨#[]⟩, .int .i64 0, .int .i64 0, .int .i64 0, .int .i64 0, .slice none 0 0] := by rw [← hwa]; exact (HZ.out.far (p := ⟨R, 1, none⟩) (Ne.symm (Nat.ne_of_lt hR)) _).alloc _
    have hFa : Fr (Only R) W wa := by rw [← hwa]; exact (fr_bump HFR.out).alloc _
    have hTa : Blk wa w2.heap.size 90 #[.int .i64 1, .string ⟨tx1.toArray⟩, .int .i64 nm1, .int .i64 pl1] := by rw [← hwa]; exact Blk.new_eq (by simp)
    rw [hwa]
    replace HZ := Lib.hid hZa
    replace HR1 := Lib.hid hRa
    replace HFR := Lib.hid hFa
    have HC0 := Lib.hid hTa
    have tc := hTa.cell
    replace zc := HZ.out.cell
    replace zf := HZ.out.frozen
    replace zl := HZ.out.lt
    clear hwa hRa hZa hFa hTa r2 q2 hz2
    go_cut [7] (fun s wm => AtomR W R A c toks (q) tx1 (cm) s wm)
    case first =>
      have hOT : ¬ Only R w2.heap.size := only_ne (by omega)
      have hOG : ¬ Only R wa.heap.size := only_ne (by omega)
      have hTl : w2.heap.size < wa.heap.size := HC0.out.lt
      have tc1 : wa.cell? ⟨w2.heap.size, 1, none⟩ = some (.string ⟨tx1.toArray⟩) := tc 1
      go_region_held3 (fun w' => w'.cell? ⟨w2.heap.size, 1, none⟩ = some (.string ⟨tx1.toArray⟩))
        (first | exact Fr.cell (S := fun k => wa.heap.size ≤ k) (w := w5) (by repeat' (first | with_reducible exact Fr.refl _ _ | with_reducible refine Fr.alloc ?_ _ | with_reducible refine Fr.set9 ?_ ?_ _ | exact Nat.le_refl _ | exact hz5)) hbx (Nat.not_le_of_lt hTl) | with_reducible exact hf5.cell (by assumption) hOT | go_keep)
        (first | ((go_at_call 238); refine (HC.out _ ?_).mono ?_; (first | exact HR1.out.drew | exact (HR1.out.fr ((Fr.refl _ _).alloc _)).drew); rintro en w5 ⟨rfl, hr5, hf5⟩; have hz5 : wa.heap.size ≤ w5.heap.size := (by have := hf5.size; first | (simp at this; omega) | simpa using this); have hbx : w5.cell? ⟨w2.heap.size, 1, none⟩ = some (.string ⟨tx1.toArray⟩) := hf5.cell (by assumption) hOT; obtain ⟨⟨x0, x1, x2, x3, x4, x5, x6⟩, ⟨n0, n1, n2, n3, n4, n5, n6⟩⟩ := zlater9 w5 28 (.int .i64 0) (.string ⟨#[]⟩) (.int .i64 0) (.int .i64 0) (.int .i64 0) (.int .i64 0) (.slice none 0 0); first | (have hzz := zboxo hOG (g := wa.heap.size) hf5 rfl; obtain ⟨⟨z0, z1, z2, z3, z4, z5, z6⟩, ⟨y0, y1, y2, y3, y4, y5, y6⟩⟩ := hzz; have hz9 := World.block_lt_of_cell? w5 _ z0; simp only at hz9) | skip))
      all_goals
        go_wp2_with fail
        go_meet
        first
          | with_reducible exact AtomR.after HRD.out HZ.out HFR.out zl hf5 hr5
          | exact AtomR.before HRD.out HZ.out HFR.out zl hf5 hr5
    case rest =>
      obtain ⟨G, rfl, hGW, hz, hg, hr, hf⟩ := hcut
      have HZ := Lib.hid hz
      have HG := Lib.hid hg
      have HR1 := Lib.hid hr
      have HFR := Lib.hid hf
      have hGZ : G ≠ W.heap.size := by omega
      have hOG : ¬ Only R G := only_ne (by omega)
      have zc := HZ.out.cell
      have zf := HZ.out.frozen
      have zl := HZ.out.lt
      have gc := HG.out.cell
      have gf := HG.out.frozen
      have gl := HG.out.lt
      clear hz hg hr hf
      go_upto_region 18 with (first
        | ((go_at_call 46); (with_reducible refine (HH2.out _ HR1.out).mono ?_); rintro en w6 ⟨rfl, hf2⟩; replace HZ := Lib.hid (HZ.out.fr hf2 (fun e => e)); replace HG := Lib.hid (HG.out.fr hf2 (fun e => e)); replace HR1 := Lib.hid (HR1.out.fr hf2); replace HFR := Lib.hid (HFR.out.call hf2 (fun _ h _ => h.elim)); replace zc := HZ.out.cell; replace zf := HZ.out.frozen; replace zl := HZ.out.lt; replace gc := HG.out.cell; replace gf := HG.out.frozen; replace gl := HG.out.lt; have hz2 := HR1.out.blk.lt; have r2 := HR1.out.blk.cell 1; have q2 := HR1.out.blk.frozen 1; clear hf2)
        )
      obtain ⟨wn, hwn⟩ : ∃ wn, w6.alloc (.cells #[.int .i64 kd2, .string ⟨tx2.toArray⟩, .int .i64 nm2, .int .i64 pl2] 90) = wn := ⟨_, rfl⟩
      have hfn : Fr Nob w6 wn := by rw [← hwn]; exact (Fr.refl _ _).alloc _
      rw [hwn]
      replace HZ := Lib.hid (HZ.out.fr hfn (fun e => e))
      replace HG := Lib.hid (HG.out.fr hfn (fun e => e))
      replace HR1 := Lib.hid (HR1.out.fr hfn)
      replace HFR := Lib.hid (HFR.out.call hfn (fun _ h _ => h.elim))
      replace zc := HZ.out.cell
      replace zf := HZ.out.frozen
      replace zl := HZ.out.lt
      replace gc := HG.out.cell
      replace gl := HG.out.lt
      have hg7 := Lib.hid (cells7b HG.out)
      clear hwn hfn gf r2 q2 hz2
      go_region_held3 (fun w' => w'.cell? ⟨G, 0, none⟩ = some (.int .i64 3) ∧ w'.cell? ⟨G, 1, none⟩ = some (.string ⟨tx1.toArray⟩) ∧ w'.cell? ⟨G, 2, none⟩ = some (.int .i64 cm) ∧ w'.cell? ⟨G, 3, none⟩ = some (.int .i64 0) ∧ w'.cell? ⟨G, 4, none⟩ = some (.int .i64 0) ∧ w'.cell? ⟨G, 5, none⟩ = some (.int .i64 0) ∧ w'.cell? ⟨G, 6, none⟩ = some (.slice none 0 0))
        (first | with_reducible exact cells7s hGZ (by assumption) _ _ _ _ _ _ _ | with_reducible exact cells7f hf5 hOG (by assumption) | go_keep)
        (first | ((go_at_call 47); refine (HW2.out _ HR1.out.drew).mono ?_; rintro en w5 ⟨rfl, hr5, hf5⟩; replace HZ := Lib.hid ((HZ.out.drew).fr hf5 hOR); replace HFR := Lib.hid ((HFR.out.drew).call hf5 (fun _ h _ => h)); replace zc := HZ.out.cell; replace zf := HZ.out.frozen))
      have HB7 := Lib.hid (set7_blk HZ.out (.int .i64 3) (.string ⟨tx1.toArray⟩) (.int .i64 cm) (.int .i64 0) (.int .i64 0) (.int .i64 0) (.slice none 0 0))
      have HF7 := Lib.hid (set7_fr w5 W.heap.size (.int .i64 3) (.string ⟨tx1.toArray⟩) (.int .i64 cm) (.int .i64 0) (.int .i64 0) (.int .i64 0) (.slice none 0 0))
      go_wp2_with fail
      change bodyPost _ _ _ _ _ (set7 w5 W.heap.size (.int .i64 3) (.string ⟨tx1.toArray⟩) (.int .i64 cm) (.int .i64 0) (.int .i64 0) (.int .i64 0) (.slice none 0 0))
      generalize set7 w5 W.heap.size (.int .i64 3) (.string ⟨tx1.toArray⟩) (.int .i64 cm) (.int .i64 0) (.int .i64 0) (.int .i64 0) (.slice none 0 0) = W7 at *
      have HS := HB7.out.cell
      refine bodyPost_ret (v := .tuple #[.agg #[.int .i64 3, .string ⟨tx1.toArray⟩, .int .i64 cm, .int .i64 0, .int .i64 0, .int .i64 0, .slice none 0 0], .bool false]) (by simp [results, Tryd.results232, go_sem, HS]) rfl ?_
      exact ⟨⟨3, ⟨tx1.toArray⟩, cm, 0, 0, 0⟩, none, 0, 0, rfl, bad_done7 HRD.out HFR.out HF7.out (⟨⟨q, q, hk2, rfl, by rw [HX2.out]; exact hr5⟩, HFR.out⟩ : Bad W w5 R A c toks 20 (remT toks q))⟩
end Go.Proofs.YtfebkjoohnlifaaDoor
