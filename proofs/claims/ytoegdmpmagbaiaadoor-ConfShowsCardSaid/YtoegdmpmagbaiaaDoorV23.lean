/- The reference: a configuration with a setting. -/
import Derived.Test.YtoegdmpmagbaiaaDoorV8
import Derived.Test.YtoegdmpmagbaiaaDoorV5
import Derived.Test.YtoegdmpmagbaiaaDoorLdb
import Derived.Deep.DeepCutAuto
namespace Go.Proofs.YtoegdmpmagbaiaaDoor
open Go.RowKit Go.Lib

/-- A configuration is handed out. -/
def IsC (e : Ending) (w w' : World) (A0 : Option Addr) (c0 c : CF) : Prop := ∃ A cap, e = .returned (.agg (cfA c A cap)) ∧ Sl w' 1 A c.weights.length cap (ints c.weights) ∧ (∀ g o, A = some ⟨g, o, none⟩ → (A = A0 ∧ c.weights = c0.weights) ∨ w.heap.size ≤ g) ∧ Fr Nob w w'
set_option maxRecDepth 100000 in
set_option maxHeartbeats 4000000 in
theorem rset_0 (w : World) (c : CF) (A B : Option Addr) (cap d : Nat) (v : Int) (hl : Sl w 1 A c.weights.length cap (ints c.weights)) (hs : Sl w 1 B 1 d (ints [v])) :
    Calls Tryd.prog 61 #[.agg (cfA c A cap), .int .i64 1, .slice B 1 d] w fun e w' => IsC e w w' A c (setC c 0 [v]) := by
  obtain ⟨g, off, v0, rfl, hg, hv, hc⟩ := Sl.at_ hs (k := 0) (by decide)
  obtain rfl : v0 = .int .i64 v := by simpa [ints] using hv.symm
  clear hv
  rw [Nat.add_zero] at hc
  have HL := Lib.hid hl
  clear hl hs
  unfold cfA
  generalize hwl : c.weights.length = wl at *
  have HW := Lib.hid hwl
  clear hwl
  go_enter Tryd.func61, Tryd.ntmps61
  go_wp2_with fail
  refine bodyPost_ret (ret_box0 (p := 6) rfl rfl ⟨_, Tryd.underlying47, rfl⟩ (by kernel_rfl) (by first | exact Blk.new_eq rfl | exact Blk.new_eq (by simp))) rfl ?_
  refine ⟨A, cap, ?_, ?_, fun _ _ _ => .inl ⟨rfl, rfl⟩, ((Fr.refl _ _).alloc _).alloc _⟩
  · unfold cfA setC
    simp [HW.out]
  · rw [show (setC c 0 [v]).weights = c.weights from rfl, HW.out]
    exact (HL.out.alloc _).alloc _
set_option maxRecDepth 100000 in
set_option maxHeartbeats 4000000 in
theorem rset_1 (w : World) (c : CF) (A B : Option Addr) (cap d : Nat) (v : Int) (hl : Sl w 1 A c.weights.length cap (ints c.weights)) (hs : Sl w 1 B 1 d (ints [v])) :
    Calls Tryd.prog 61 #[.agg (cfA c A cap), .int .i64 2, .slice B 1 d] w fun e w' => IsC e w w' A c (setC c 1 [v]) := by
  obtain ⟨g, off, v0, rfl, hg, hv, hc⟩ := Sl.at_ hs (k := 0) (by decide)
  obtain rfl : v0 = .int .i64 v := by simpa [ints] using hv.symm
  clear hv
  rw [Nat.add_zero] at hc
  have HL := Lib.hid hl
  clear hl hs
  unfold cfA
  generalize hwl : c.weights.length = wl at *
  have HW := Lib.hid hwl
  clear hwl
  go_enter Tryd.func61, Tryd.ntmps61
  go_wp2_with fail
  refine bodyPost_ret (ret_box0 (p := 6) rfl rfl ⟨_, Tryd.underlying47, rfl⟩ (by kernel_rfl) (by first | exact Blk.new_eq rfl | exact Blk.new_eq (by simp))) rfl ?_
  refine ⟨A, cap, ?_, ?_, fun _ _ _ => .inl ⟨rfl, rfl⟩, ((Fr.refl _ _).alloc _).alloc _⟩
  · unfold cfA setC
    simp [HW.out]
  · rw [show (setC c 1 [v]).weights = c.weights from rfl, HW.out]
    exact (HL.out.alloc _).alloc _
set_option maxRecDepth 100000 in
set_option maxHeartbeats 4000000 in
theorem rset_4 (w : World) (c : CF) (A B : Option Addr) (cap d : Nat) (v : Int) (hl : Sl w 1 A c.weights.length cap (ints c.weights)) (hs : Sl w 1 B 1 d (ints [v])) :
    Calls Tryd.prog 61 #[.agg (cfA c A cap), .int .i64 5, .slice B 1 d] w fun e w' => IsC e w w' A c (setC c 4 [v]) := by
  obtain ⟨g, off, v0, rfl, hg, hv, hc⟩ := Sl.at_ hs (k := 0) (by decide)
  obtain rfl : v0 = .int .i64 v := by simpa [ints] using hv.symm
  clear hv
  rw [Nat.add_zero] at hc
  have HL := Lib.hid hl
  clear hl hs
  unfold cfA
  generalize hwl : c.weights.length = wl at *
  have HW := Lib.hid hwl
  clear hwl
  go_enter Tryd.func61, Tryd.ntmps61
  go_wp2_with fail
  refine bodyPost_ret (ret_box0 (p := 6) rfl rfl ⟨_, Tryd.underlying47, rfl⟩ (by kernel_rfl) (by first | exact Blk.new_eq rfl | exact Blk.new_eq (by simp))) rfl ?_
  refine ⟨A, cap, ?_, ?_, fun _ _ _ => .inl ⟨rfl, rfl⟩, ((Fr.refl _ _).alloc _).alloc _⟩
  · unfold cfA setC
    simp [HW.out]
  · rw [show (setC c 4 [v]).weights = c.weights from rfl, HW.out]
    exact (HL.out.alloc _).alloc _
set_option maxRecDepth 100000 in
set_option maxHeartbeats 4000000 in
theorem rset_5 (w : World) (c : CF) (A B : Option Addr) (cap d : Nat) (v : Int) (hl : Sl w 1 A c.weights.length cap (ints c.weights)) (hs : Sl w 1 B 1 d (ints [v])) :
    Calls Tryd.prog 61 #[.agg (cfA c A cap), .int .i64 6, .slice B 1 d] w fun e w' => IsC e w w' A c (setC c 5 [v]) := by
  obtain ⟨g, off, v0, rfl, hg, hv, hc⟩ := Sl.at_ hs (k := 0) (by decide)
  obtain rfl : v0 = .int .i64 v := by simpa [ints] using hv.symm
  clear hv
  rw [Nat.add_zero] at hc
  have HL := Lib.hid hl
  clear hl hs
  unfold cfA
  generalize hwl : c.weights.length = wl at *
  have HW := Lib.hid hwl
  clear hwl
  go_enter Tryd.func61, Tryd.ntmps61
  go_wp2_with fail
  refine bodyPost_ret (ret_box0 (p := 6) rfl rfl ⟨_, Tryd.underlying47, rfl⟩ (by kernel_rfl) (by first | exact Blk.new_eq rfl | exact Blk.new_eq (by simp))) rfl ?_
  refine ⟨A, cap, ?_, ?_, fun _ _ _ => .inl ⟨rfl, rfl⟩, ((Fr.refl _ _).alloc _).alloc _⟩
  · unfold cfA setC
    simp [HW.out]
  · rw [show (setC c 5 [v]).weights = c.weights from rfl, HW.out]
    exact (HL.out.alloc _).alloc _
set_option maxRecDepth 100000 in
set_option maxHeartbeats 4000000 in
theorem rset_6 (w : World) (c : CF) (A B : Option Addr) (cap d : Nat) (v : Int) (hl : Sl w 1 A c.weights.length cap (ints c.weights)) (hs : Sl w 1 B 1 d (ints [v])) :
    Calls Tryd.prog 61 #[.agg (cfA c A cap), .int .i64 7, .slice B 1 d] w fun e w' => IsC e w w' A c (setC c 6 [v]) := by
  obtain ⟨g, off, v0, rfl, hg, hv, hc⟩ := Sl.at_ hs (k := 0) (by decide)
  obtain rfl : v0 = .int .i64 v := by simpa [ints] using hv.symm
  clear hv
  rw [Nat.add_zero] at hc
  have HL := Lib.hid hl
  clear hl hs
  unfold cfA
  generalize hwl : c.weights.length = wl at *
  have HW := Lib.hid hwl
  clear hwl
  go_enter Tryd.func61, Tryd.ntmps61
  go_wp2_with fail
  refine bodyPost_ret (ret_box0 (p := 6) rfl rfl ⟨_, Tryd.underlying47, rfl⟩ (by kernel_rfl) (by first | exact Blk.new_eq rfl | exact Blk.new_eq (by simp))) rfl ?_
  refine ⟨A, cap, ?_, ?_, fun _ _ _ => .inl ⟨rfl, rfl⟩, ((Fr.refl _ _).alloc _).alloc _⟩
  · unfold cfA setC
    simp [HW.out]
  · rw [show (setC c 6 [v]).weights = c.weights from rfl, HW.out]
    exact (HL.out.alloc _).alloc _
set_option maxRecDepth 100000 in
set_option maxHeartbeats 4000000 in
theorem rset_3 (w : World) (c : CF) (A B : Option Addr) (cap d : Nat) (l : List Int) (hw : c.weights = []) (hs : Sl w 1 B l.length d (ints l)) (h63 : l.length ≤ 1000) :
    Calls Tryd.prog 61 #[.agg (cfA c A cap), .int .i64 4, .slice B l.length d] w fun e w' => IsC e w w' A c (setC c 3 l) := by
  have HL := Lib.hid hs
  have hmx := hs.max
  have hle := hs.le
  unfold maxLen at hmx
  have HS := Lib.hid (show (setC c 3 l).weights = l by unfold setC; simp [hw])
  have HC := Lib.hid (show ∀ A' c', cfA (setC c 3 l) A' c' = #[.int .i64 c.sources, .int .i64 c.room, .bool c.oldest, .slice A' l.length c', .int .i64 c.quantum, .int .i64 c.timeout, .int .i64 c.patience] from fun A' c' => by unfold cfA; rw [HS.out]; rfl)
  have HWN := Lib.hid (show c.weights.length = 0 by rw [hw]; rfl)
  clear hs hw
  unfold cfA
  rw [HWN.out]
  go_enter Tryd.func61, Tryd.ntmps61
  go_upto_region 8 with fail
  obtain ⟨W1, hW1⟩ : ∃ W1, W1 = (w.alloc (.cells #[.int .i64 c.sources, .int .i64 c.room, .bool c.oldest, .slice A 0 cap, .int .i64 c.quantum, .int .i64 c.timeout, .int .i64 c.patience] 47)).alloc (.cells #[.int .i64 0, .int .i64 0, .bool false, .slice none 0 0, .int .i64 0, .int .i64 0, .int .i64 0] 47) := ⟨_, rfl⟩
  have HF1 := Lib.hid (show Fr Nob w W1 by rw [hW1]; exact ((Fr.refl _ _).alloc _).alloc _)
  have HB1 := Lib.hid (show Blk W1 w.heap.size 47 #[.int .i64 c.sources, .int .i64 c.room, .bool c.oldest, .slice A 0 cap, .int .i64 c.quantum, .int .i64 c.timeout, .int .i64 c.patience] by rw [hW1]; exact (Blk.new _ _ _).alloc _)
  have HB2 := Lib.hid (show Blk W1 (w.heap.size + 1) 47 #[.int .i64 0, .int .i64 0, .bool false, .slice none 0 0, .int .i64 0, .int .i64 0, .int .i64 0] by rw [hW1]; exact Blk.new_eq (by simp))
  rw [← hW1]
  clear hW1
  go_loopw [7, 8] (fun sv iv wr => ∃ (k : Nat) (A' : Option Addr) (c' : Nat), k ≤ l.length ∧ iv = .int .i64 k ∧ sv = .slice A' k c' ∧ Hid (Ap W1 wr W1.heap.size 3 A' c' k (ints (l.take k)))) (fun _ iv _ => l.length - (RowKit.intOf iv).toNat)
  case atStart => exact ⟨0, none, 0, Nat.zero_le _, rfl, rfl, Lib.hid (Ap.start (Fr.refl _ _) (Nat.le_refl _) (Nat.le_refl _))⟩
  case round =>
    obtain ⟨k, A', c', hk, rfl, rfl, hp⟩ := hrel
    by_cases hlt : k < l.length
    · have hI : (k : Int) < l.length := by omega
      have hI3 : 0 ≤ (k : Int) := by omega
      obtain ⟨g, off, rfl, hg, hc⟩ := (HL.out.pure (HF1.out.call hp.out.fr (fun _ e _ => e))).int_at hlt
      have HSN := Lib.hid (ints_snoc hlt)
      obtain ⟨o2, HQ⟩ : ∃ o2, Hid (ints (l.take (k + 1)) = o2) := ⟨_, Lib.hid rfl⟩
      rw [HQ.out] at HSN
      generalize ints (l.take k) = o at *
      generalize l[k] = x at *
      go_wp2_with (at_builtin; refine wpList_app rfl _ _ 41 rfl elemJ (base := W1.heap.size) (xs := o) (news := [.int .i64 x]) rfl ?own rfl ?src ?one ?h63 ?hby ?hbase ?_)
      case own => exact hp.out.own_al _
      case src => exact Sl.new1 (Blk.new_eq (by first | rfl | simp)) 1 1 rfl (by decide)
      case one => first | rfl | exact (by intro u hu; simp at hu; subst hu; rfl)
      case h63 => unfold maxLen; omega
      case hby => omega
      case hbase => have h1 := hp.out.hi; simp at h1 ⊢; omega
      intro A2 c2 w2 hown hgr _
      rw [HSN.out] at hown
      have HP2 := Lib.hid ((hp.out.pure ((Fr.refl Nob _).alloc _)).app hown hgr)
      clear hown hgr
      go_wp2_with fail
      go_roundw
      case rel => exact ⟨k + 1, A2, c2, by omega, by go_num, by simp, by rw [HQ.out]; exact HP2⟩
      case measure => simp [RowKit.intOf]; omega
    · have hI : ¬ (k : Int) < l.length := by omega
      rw [ints_all (show l.length ≤ k by omega)] at hp
      obtain rfl : k = l.length := by omega
      have hb1 := Lib.hid (HB1.out.fr hp.out.fr (fun e => e))
      have hb2 := Lib.hid (HB2.out.fr hp.out.fr (fun e => e))
      have bx := hb1.out.cell
      have bl_ := hb1.out.lt
      have bz := hb1.out.frozen
      have HB3 := Lib.hid (show Blk (wr.setCell ⟨w.heap.size, 3, none⟩ (.slice A' l.length c')) w.heap.size 47 #[.int .i64 c.sources, .int .i64 c.room, .bool c.oldest, .slice A' l.length c', .int .i64 c.quantum, .int .i64 c.timeout, .int .i64 c.patience] from hb1.out.set 3 _)
      have HB4 := Lib.hid (hb2.out.far (p := ⟨w.heap.size, 3, none⟩) (by simp only; omega) (.slice A' l.length c'))
      go_wp2_with (first | (refine wpList_ldBox rfl rfl (by rfl) ⟨_, Tryd.underlying47, rfl⟩ (by kernel_rfl) HB3.out ?_) | (refine wpList_stBox rfl rfl (by rfl) (by rfl) (by kernel_rfl) (by rfl) HB4.out (by rfl) ?_; intro W7 hb7 hf7; have HB7 := Lib.hid hb7; have HF7 := Lib.hid hf7; clear hb7 hf7) | fail)
      refine bodyPost_ret (ret_box0 (p := 6) rfl rfl ⟨_, Tryd.underlying47, rfl⟩ (by kernel_rfl) HB7.out) rfl ?_
      have hgb : ∀ g o, A' = some ⟨g, o, none⟩ → w.heap.size + 1 < g := fun g o e => by
        have h1 := own_addr hp.out.own g o e
        have h2 := HB2.out.lt
        omega
      have hfa : Fr (fun i => w.heap.size ≤ i) wr W7 := (((Fr.refl (Only w.heap.size) wr).setCell (p := ⟨w.heap.size, 3, none⟩) (fun _ => rfl) _).mono (fun i _ (e : i = w.heap.size) => by omega)).call HF7.out (fun i (e : i = w.heap.size + 1) _ => by omega)
      refine ⟨A', c', by rw [HC.out], ?_, fun g o e => .inr (by have := hgb g o e; omega), (HF1.out.call hp.out.fr (fun _ e _ => e)).call hfa (fun i (e : w.heap.size ≤ i) hlt => by omega)⟩
      rw [HS.out]
      exact (hp.out.sl.set (fun b off e => by have := hgb b off e; show b ≠ w.heap.size; omega) _).fr HF7.out (fun g o e _ q => by have := hgb g o e; have q : g = w.heap.size + 1 := q; omega)
theorem ref_set (w : World) (c : CF) (A B : Option Addr) (cap d k n : Nat) (l : List Int) (hk : k < 7) (h2 : k ≠ 2) (hn : l.length = n) (h1 : k ≠ 3 → l.length = 1) (hw : k = 3 → c.weights = []) (hl : Sl w 1 A c.weights.length cap (ints c.weights)) (hs : Sl w 1 B n d (ints l)) (h63 : l.length ≤ 1000) :
    Calls Tryd.prog 61 #[.agg (cfA c A cap), .int .i64 ((k : Int) + 1), .slice B n d] w fun e w' => IsC e w w' A c (setC c k l) := by
  subst hn
  have a : k = 0 ∨ k = 1 ∨ k = 3 ∨ k = 4 ∨ k = 5 ∨ k = 6 := by omega
  rcases a with rfl | rfl | rfl | rfl | rfl | rfl
  · obtain ⟨v, rfl⟩ := List.length_eq_one_iff.1 (h1 (by decide)); exact rset_0 w c A B cap d v hl hs
  · obtain ⟨v, rfl⟩ := List.length_eq_one_iff.1 (h1 (by decide)); exact rset_1 w c A B cap d v hl hs
  · exact rset_3 w c A B cap d l (hw rfl) hs h63
  · obtain ⟨v, rfl⟩ := List.length_eq_one_iff.1 (h1 (by decide)); exact rset_4 w c A B cap d v hl hs
  · obtain ⟨v, rfl⟩ := List.length_eq_one_iff.1 (h1 (by decide)); exact rset_5 w c A B cap d v hl hs
  · obtain ⟨v, rfl⟩ := List.length_eq_one_iff.1 (h1 (by decide)); exact rset_6 w c A B cap d v hl hs
end Go.Proofs.YtoegdmpmagbaiaaDoor
