/- The settings that tell or set many numbers, and the policy's. -/
import Derived.Test.YtoegdmpmagbaiaaDoorV4
namespace Go.Proofs.YtoegdmpmagbaiaaDoor
open Go.RowKit Go.Lib

theorem elemI : ElemT Tryd.prog 91 2 1 8 := ElemT.mk (z := .int .i64 0) Tryd.underlying91 (by kernel_rfl) (by kernel_rfl) (by decide)
theorem elemJ : ElemT Tryd.prog 41 3 1 8 := ElemT.mk (z := .int .i64 0) Tryd.underlying41 (by kernel_rfl) (by kernel_rfl) (by decide)
theorem elemStr : ElemT Tryd.prog 59 9 1 16 := ElemT.mk (z := .string default) Tryd.underlying59 (by kernel_rfl) (by kernel_rfl) (by decide)
/-- A row of one-cell elements that is being made. -/
structure Ap (w wr : World) (b : Nat) (e : TypeId) (A : Option Addr) (c n : Nat) (o : List Value) : Prop where
  fr : Fr Nob w wr
  own : wr.ownsRow b e 1 (.slice A n c) n o
  lo : w.heap.size ≤ b
  hi : b ≤ wr.heap.size
section
variable {w wr w1 : World} {b : Nat} {e : TypeId} {A : Option Addr} {c n : Nat} {o : List Value}
theorem Ap.start (h : Fr Nob w wr) (hb : w.heap.size ≤ b) (hi : b ≤ wr.heap.size) : Ap w wr b e none 0 0 [] := ⟨h, ⟨rfl, .inl ⟨rfl, rfl⟩⟩, hb, hi⟩
theorem Ap.pure (h : Ap w wr b e A c n o) (hf : Fr Nob wr w1) : Ap w w1 b e A c n o := ⟨h.fr.call hf (fun _ h _ => h), own_fr h.own hf (fun _ _ _ _ e => e), h.lo, Nat.le_trans h.hi hf.size⟩
theorem Ap.own_al (h : Ap w wr b e A c n o) (ob : Obj) : (wr.alloc ob).ownsRow b e 1 (.slice A n c) n o := (h.pure ((Fr.refl Nob wr).alloc ob)).own
theorem Ap.app {A' : Option Addr} {c' m : Nat} {o' : List Value} (h : Ap w wr b e A c n o) (hown : w1.ownsRow b e 1 (.slice A' m c') m o') (hg : wr.grownBy w1 (A.map (·.block))) : Ap w w1 b e A' c' m o' :=
  ⟨h.fr.grown hg (fun k hk hlt => by have := own_base h.own k hk; have := h.lo; omega), hown, h.lo, Nat.le_trans h.hi hg.size⟩
theorem Ap.far (h : Ap w wr b e A c n o) (hg : wr.grownBy w1 (A.map (·.block))) {g : Nat} {t : TypeId} {cs : Array Value} (hb : Blk wr g t cs) (hlt : g < b) : Blk w1 g t cs :=
  hb.grown hg (fun q => by have := own_base h.own _ q; omega)
theorem Ap.sl (h : Ap w wr b e A c n o) : Sl wr 1 A n c o := Sl.of_own h.own
end
theorem ints_at {l : List Int} {k : Nat} (h : k < l.length) {v : Value} (hv : (ints l)[k]? = some v) : v = .int .i64 l[k] := by
  unfold ints at hv
  rw [List.getElem?_map, List.getElem?_eq_getElem h] at hv
  injection hv with hv
  exact hv.symm
theorem ints_snoc {l : List Int} {k : Nat} (h : k < l.length) : ints (l.take k) ++ [.int .i64 l[k]] = ints (l.take (k + 1)) := by
  rw [List.take_succ_eq_append_getElem h]
  unfold ints
  rw [List.map_append]
  rfl
theorem ints_all {l : List Int} {k : Nat} (h : l.length ≤ k) : ints (l.take k) = ints l := by rw [List.take_of_length_le h]
theorem Sl.int_at {w : World} {A : Option Addr} {cap : Nat} {l : List Int} {k : Nat} (h : Sl w 1 A l.length cap (ints l)) (hk : k < l.length) : ∃ b off, A = some ⟨b, off, none⟩ ∧ b < w.heap.size ∧ w.cell? ⟨b, off + k, none⟩ = some (.int .i64 l[k]) := by
  obtain ⟨b, off, v, hA, hb, hv, hc⟩ := h.at_ hk
  rw [ints_at hk hv] at hc
  exact ⟨b, off, hA, hb, hc⟩
set_option maxRecDepth 100000 in
set_option maxHeartbeats 4000000 in
theorem tell_3 (w : World) (c : CF) (A : Option Addr) (cap : Nat) (hl : Sl w 1 A c.weights.length cap (ints c.weights)) (h63 : c.weights.length ≤ 1000) : Calls Tryd.prog 70 #[.agg (cfA c A cap)] w fun e w' => IsL e w w' (tellC c 3) := by
  have HR := Lib.hid (show tellC c 3 = c.weights from rfl)
  have HL := Lib.hid hl
  have hle := hl.le
  have hmx := hl.max
  unfold maxLen at hmx
  clear hl
  unfold cfA
  generalize c.weights = l at *
  go_enter Tryd.func70, Tryd.ntmps70
  go_wp2_with fail
  go_loopw [3, 9] (fun sv iv wr => ∃ (k : Nat) (A' : Option Addr) (c' : Nat), k ≤ l.length ∧ iv = .int .i64 k ∧ sv = .slice A' k c' ∧ Hid (Ap w wr (w.heap.size + 1) 2 A' c' k (ints (l.take k)))) (fun _ iv _ => l.length - (intOf iv).toNat)
  case atStart => exact ⟨0, none, 0, Nat.zero_le _, rfl, rfl, Lib.hid (Ap.start ((Fr.refl Nob w).alloc _) (by omega) (by simp))⟩
  case round =>
    obtain ⟨k, A', c', hk, rfl, rfl, hp⟩ := hrel
    by_cases hlt : k < l.length
    · have hI : (k : Int) < l.length := by omega
      have hI3 : 0 ≤ (k : Int) := by omega
      obtain ⟨g, off, rfl, hg, hc⟩ := (HL.out.pure hp.out.fr).int_at hlt
      have HS := Lib.hid (ints_snoc hlt)
      obtain ⟨o2, HQ⟩ : ∃ o2, Hid (ints (l.take (k + 1)) = o2) := ⟨_, Lib.hid rfl⟩
      rw [HQ.out] at HS
      generalize ints (l.take k) = o at *
      generalize l[k] = x at *
      go_wp2_with (at_builtin; refine wpList_app rfl _ _ 91 rfl elemI (base := w.heap.size + 1) (xs := o) (news := [.int .i64 x]) rfl ?own rfl ?src ?one ?h63 ?hby ?hbase ?_)
      case own => exact hp.out.own_al _
      case src => exact Sl.new1 (Blk.new _ _ _) 1 1 rfl (by decide)
      case one => exact (by intro u hu; simp at hu; subst hu; rfl)
      case h63 => unfold maxLen; omega
      case hby => omega
      case hbase => have h1 := hp.out.hi; simp at h1 ⊢; omega
      intro A2 c2 w2 hown hgr _
      rw [HS.out] at hown
      have HP2 := Lib.hid ((hp.out.pure ((Fr.refl Nob _).alloc _)).app hown hgr)
      clear hown hgr
      go_wp2_with fail
      go_roundw
      case rel => exact ⟨k + 1, A2, c2, by omega, by go_num, by simp, by rw [HQ.out]; exact HP2⟩
      case measure => simp [intOf]; omega
    · have hI : ¬ (k : Int) < l.length := by omega
      rw [ints_all (show l.length ≤ k by omega)] at hp
      obtain rfl : k = l.length := by omega
      go_wp2_with fail
      go_ret
      rw [HR.out]
      exact ⟨A', c', rfl, hp.out.sl, InI.own hp.out.own, hp.out.fr⟩
theorem tell_2_true (w : World) (c : CF) (hc : c.oldest = true) (A : Option Addr) (cap : Nat) : Calls Tryd.prog 67 #[.agg (cfA c A cap)] w fun e w' => IsL e w w' (tellC c 2) := by
  have HR := Lib.hid (show tellC c 2 = [1] by unfold tellC; rw [hc]; rfl)
  have HI := Lib.hid (show polI oldC = 1 from rfl)
  unfold cfA
  rw [hc]
  clear hc
  go_enter Tryd.func67, Tryd.ntmps67
  go_wp2_with fail
  go_region_with (first
    | ((go_at_call 46); refine (prg_policies _).mono ?_; rintro e w' ⟨rfl, rfl⟩)
    | ((go_at_call 68); refine (prg_policy _ true).mono ?_; rintro e w' ⟨rfl, rfl⟩)
    | ((go_at_call 56); refine (prg_Index _ _ (by (repeat apply Blk.drew); exact Blk.new_eq (by simp)) oldC).mono ?_; rintro e w' ⟨rfl, rfl⟩; rw [HI.out]))
  all_goals
    go_wp2_with fail
    go_ret
    rw [HR.out]
    refine ⟨_, _, rfl, ?_, InI.one (by (repeat apply Blk.drew); exact Blk.new_eq (by simp)), by repeat (first | exact Fr.refl _ _ | refine Fr.alloc ?_ _ | refine Fr.drew ?_)⟩
    refine Sl.new1 (t := 2) (cs := #[.int .i64 (1)]) ?_ 1 1 rfl (by decide)
    (repeat apply Blk.drew); exact Blk.new_eq (by simp)
theorem tell_2_false (w : World) (c : CF) (hc : c.oldest = false) (A : Option Addr) (cap : Nat) : Calls Tryd.prog 67 #[.agg (cfA c A cap)] w fun e w' => IsL e w w' (tellC c 2) := by
  have HR := Lib.hid (show tellC c 2 = [0] by unfold tellC; rw [hc]; rfl)
  have HI := Lib.hid (show polI tailC = 0 from rfl)
  unfold cfA
  rw [hc]
  clear hc
  go_enter Tryd.func67, Tryd.ntmps67
  go_wp2_with fail
  go_region_with (first
    | ((go_at_call 46); refine (prg_policies _).mono ?_; rintro e w' ⟨rfl, rfl⟩)
    | ((go_at_call 68); refine (prg_policy _ false).mono ?_; rintro e w' ⟨rfl, rfl⟩)
    | ((go_at_call 56); refine (prg_Index _ _ (by (repeat apply Blk.drew); exact Blk.new_eq (by simp)) tailC).mono ?_; rintro e w' ⟨rfl, rfl⟩; rw [HI.out]))
  all_goals
    go_wp2_with fail
    go_ret
    rw [HR.out]
    refine ⟨_, _, rfl, ?_, InI.one (by (repeat apply Blk.drew); exact Blk.new_eq (by simp)), by repeat (first | exact Fr.refl _ _ | refine Fr.alloc ?_ _ | refine Fr.drew ?_)⟩
    refine Sl.new1 (t := 2) (cs := #[.int .i64 (0)]) ?_ 1 1 rfl (by decide)
    (repeat apply Blk.drew); exact Blk.new_eq (by simp)
theorem tell_2 (w : World) (c : CF) (A : Option Addr) (cap : Nat) : Calls Tryd.prog 67 #[.agg (cfA c A cap)] w fun e w' => IsL e w w' (tellC c 2) := by
  cases hc : c.oldest
  · exact tell_2_false w c hc A cap
  · exact tell_2_true w c hc A cap

/-- A configuration's box whose weights are being laid. -/
structure TkW (w wr : World) (b : Nat) (c : CF) (A : Option Addr) (c' n : Nat) (o : List Value) : Prop where
  fr : Fr (Only b) w wr
  own : wr.ownsRow w.heap.size 3 1 (.slice A n c') n o
  box : Blk wr b 43 #[.int .i64 c.sources, .int .i64 c.room, .bool c.oldest, .slice A n c', .int .i64 c.quantum, .int .i64 c.timeout, .int .i64 c.patience]
theorem TkW.app {w wr w1 : World} {b : Nat} {c : CF} {A A' : Option Addr} {c' c2 n m : Nat} {o o' : List Value} (h : TkW w wr b c A c' n o) (hb : b < w.heap.size) (ob : Obj) (hown : w1.ownsRow w.heap.size 3 1 (.slice A' m c2) m o') (hg : (wr.alloc ob).grownBy w1 (A.map (·.block))) :
    Blk w1 b 43 #[.int .i64 c.sources, .int .i64 c.room, .bool c.oldest, .slice A n c', .int .i64 c.quantum, .int .i64 c.timeout, .int .i64 c.patience] ∧ TkW w (w1.setCell ⟨b, 3, none⟩ (.slice A' m c2)) b c A' c2 m o' := by
  have h1 : Blk w1 b 43 _ := (h.box.alloc ob).grown hg (fun q => by have := own_base h.own _ q; omega)
  refine ⟨h1, ?_, ?_, h1.set 3 _⟩
  · exact ((h.fr.alloc ob).grown hg (fun k hk hlt => by have := own_base h.own k hk; omega)).setCell (p := ⟨b, 3, none⟩) (fun _ => rfl) _
  · refine own_fr hown ((Fr.refl (Only b) w1).setCell (p := ⟨b, 3, none⟩) (fun _ => rfl) _) (fun k _ hk _ e => ?_)
    have : k = b := e
    omega
set_option maxRecDepth 100000 in
set_option maxHeartbeats 4000000 in
theorem take_3 (w : World) (c : CF) (B : Option Addr) (b d : Nat) (l : List Int) (hw : c.weights = []) (hb : Blk w b 43 (cfA c none 0)) (hs : Sl w 1 B l.length d (ints l)) (hB : ∀ g off, B = some ⟨g, off, none⟩ → g ≠ b) (h63 : l.length ≤ 1000) :
    Calls Tryd.prog 69 #[.pointer (some ⟨b, 0, none⟩), .slice B l.length d] w fun e w' => e = .returned (.tuple #[]) ∧ ∃ A' cap', Blk w' b 43 (cfA (setC c 3 l) A' cap') ∧ Sl w' 1 A' l.length cap' (ints l) ∧ (∀ g off, A' = some ⟨g, off, none⟩ → w.heap.size ≤ g) ∧ Fr (Only b) w w' := by
  have HE := Lib.hid (show ∀ A' cap', cfA (setC c 3 l) A' cap' = #[.int .i64 c.sources, .int .i64 c.room, .bool c.oldest, .slice A' l.length cap', .int .i64 c.quantum, .int .i64 c.timeout, .int .i64 c.patience] from fun A' cap' => by
    unfold cfA setC
    simp [hw])
  have hlt := hb.lt
  have HLT := Lib.hid hlt
  have HB := Lib.hid (show TkW w w b c none 0 0 [] from ⟨Fr.refl _ _, ⟨rfl, .inl ⟨rfl, rfl⟩⟩, by have := hb; unfold cfA at this; rw [hw] at this; exact this⟩)
  have HL := Lib.hid hs
  have HN := Lib.hid hB
  clear hb hs hw hB
  have hmx := HL.out.max
  have hle := HL.out.le
  unfold maxLen at hmx
  go_enter Tryd.func69, Tryd.ntmps69
  go_wp2_with fail
  go_loopw [8] (fun iv wr => ∃ (k : Nat) (A' : Option Addr) (c' : Nat), k ≤ l.length ∧ iv = .int .i64 k ∧ Hid (TkW w wr b c A' c' k (ints (l.take k)))) (fun iv _ => l.length - (intOf iv).toNat)
  case atStart => exact ⟨0, none, 0, Nat.zero_le _, rfl, HB⟩
  case round =>
    obtain ⟨k, A', c', hk, rfl, hp⟩ := hrel
    by_cases hlt : k < l.length
    · have hI : (k : Int) < l.length := by omega
      have hI3 : 0 ≤ (k : Int) := by omega
      obtain ⟨g, off, hgB, hg, hc⟩ := HL.out.int_at hlt
      subst hgB
      have hc := hp.out.fr.cell hc (HN.out _ _ rfl)
      have HS := Lib.hid (ints_snoc hlt)
      have hq := hp.out.box.cell 3
      have hz := hp.out.box.frozen 3
      obtain ⟨o2, HQ⟩ : ∃ o2, Hid (ints (l.take (k + 1)) = o2) := ⟨_, Lib.hid rfl⟩
      rw [HQ.out] at HS
      generalize ints (l.take k) = o at *
      generalize l[k] = x at *
      have HF := Lib.hid (show w.heap.size ≤ wr.heap.size from hp.out.fr.size)
      go_wp2_with (at_builtin; refine wpList_app rfl _ _ 41 rfl elemJ (base := w.heap.size) (xs := o) (news := [.int .i64 x]) rfl ?own rfl ?src ?one ?h63 ?hby ?hbase ?_)
      case own => exact own_fr hp.out.own ((Fr.refl Nob wr).alloc _) (fun _ _ _ _ e => e)
      case src => exact Sl.new1 (Blk.new _ _ _) 1 1 rfl (by decide)
      case one => exact (by intro u hu; simp at hu; subst hu; rfl)
      case h63 => unfold maxLen; omega
      case hby => omega
      case hbase => have := HF.out; simp; omega
      intro A2 c2 w2 hown hgr _
      rw [HS.out] at hown
      have HP := Lib.hid (hp.out.app HLT.out _ hown hgr)
      have hq2 := HP.out.1.cell 3
      have hz2 := HP.out.1.frozen 3
      have HP2 := Lib.hid HP.out.2
      clear hown hgr HP
      go_wp2_with fail
      go_roundw
      case rel => exact ⟨k + 1, A2, c2, by omega, by go_num, by rw [HQ.out]; exact HP2⟩
      case measure => simp [intOf]; omega
    · have hI : ¬ (k : Int) < l.length := by omega
      rw [ints_all (show l.length ≤ k by omega)] at hp
      obtain rfl : k = l.length := by omega
      go_wp2_with fail
      go_end0
      refine ⟨rfl, A', c', by rw [HE.out]; exact hp.out.box, Sl.of_own hp.out.own, fun g off e => own_addr hp.out.own g off e, hp.out.fr⟩
def strB (ws : List ByteArray) : List Value := ws.map .string
def bl (ws : List ByteArray) : List (List UInt8) := ws.map (·.data.toList)
theorem Sl.str_at {w : World} {A : Option Addr} {n cap : Nat} {l : List ByteArray} {k : Nat} (h : Sl w 1 A n cap (strB l)) (hk : k < l.length) : ∃ b off, A = some ⟨b, off, none⟩ ∧ b < w.heap.size ∧ w.cell? ⟨b, off + k, none⟩ = some (.string l[k]) := by
  have hn : l.length = n := by have := h.len; simpa [strB] using this
  obtain ⟨b, off, v, hA, hb, hv, hc⟩ := h.at_ (by omega : k < n)
  unfold strB at hv
  rw [List.getElem?_map, List.getElem?_eq_getElem hk] at hv
  injection hv with hv
  rw [← hv] at hc
  exact ⟨b, off, hA, hb, hc⟩
theorem bl_at {l : List ByteArray} {j : Nat} (h : j < l.length) : (bl l).take (j + 1) = (bl l).take j ++ [l[j].data.toList] := by
  have hb : j < (bl l).length := by simpa [bl] using h
  rw [List.take_succ_eq_append_getElem hb]
  simp [bl]
/-- A slice of texts. -/
def IsB (e : Ending) (w w' : World) (L : List (List UInt8)) : Prop := ∃ A n d ps, e = .returned (.slice A n d) ∧ bl ps = L ∧ Sl w' 1 A n d (strB ps) ∧ (∀ g o, A = some ⟨g, o, none⟩ → w.heap.size ≤ g) ∧ Fr Nob w w'
/-- The words without the first. -/
theorem words_tail {w : World} {h off d : Nat} {s : ByteArray} {rest : List ByteArray} (hw : Sl w 1 (some ⟨h, off, none⟩) (rest.length + 1) d (strB (s :: rest))) : ∃ A2 d2, (∀ W, (Instr.slice 59 (.slice (some ⟨h, off, none⟩) (rest.length + 1) d) (some (.int .i64 1)) none none).run Tryd.prog W = .ok (.slice A2 rest.length d2) W) ∧ Sl w 1 A2 rest.length d2 (strB rest) ∧ ∀ g o, A2 = some ⟨g, o, none⟩ → g = h := by
  refine ⟨_, _, fun W => run_cut elemStr (some ⟨h, off, none⟩) (n := rest.length + 1) (cap := d) 1 (by omega) W, hw.cut (k := 1) (by omega), fun g o e => ?_⟩
  split at e
  · injection e with e; injection e with e1; exact e1.symm
  · simp only [Option.map_some, add_addr] at e
    injection e with e; injection e with e1; exact e1.symm
theorem pol_eq (l : List UInt8) : polC l = if 0 ≤ polI l then some (polI l) else none := by
  unfold polC polI
  split
  · rfl
  · split <;> rfl
end Go.Proofs.YtoegdmpmagbaiaaDoor
