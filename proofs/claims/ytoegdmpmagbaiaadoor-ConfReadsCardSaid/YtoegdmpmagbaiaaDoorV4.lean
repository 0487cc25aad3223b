/- What the settings set and tell. -/
import Derived.Test.YtoegdmpmagbaiaaDoorV2
import Derived.Test.YtoegdmpmagbaiaaDoorSl
namespace Go.Proofs.YtoegdmpmagbaiaaDoor
open Go.RowKit Go.Lib

def ints (l : List Int) : List Value := l.map fun v => .int .i64 v
theorem ints_len (l : List Int) : (ints l).length = l.length := by simp [ints]
/-- A configuration's cells. -/
def cfA (c : CF) (A : Option Addr) (cap : Nat) : Array Value := #[.int .i64 c.sources, .int .i64 c.room, .bool c.oldest, .slice A c.weights.length cap, .int .i64 c.quantum, .int .i64 c.timeout, .int .i64 c.patience]
/-- The slice lies in a block of numbers. -/
def InI (w : World) (A : Option Addr) : Prop := ∀ g o, A = some ⟨g, o, none⟩ → ∃ cs, Blk w g 2 cs
theorem InI.one {w : World} {g : Nat} {cs : Array Value} (h : Blk w g 2 cs) : InI w (some ⟨g, 0, none⟩) := fun g' o e => by
  injection e with e; injection e with e1
  subst e1
  exact ⟨cs, h⟩
theorem InI.own {w : World} {base n c : Nat} {A : Option Addr} {xs : List Value} (h : w.ownsRow base 2 1 (.slice A n c) n xs) : InI w A := fun g o e => by
  rcases h.2 with ⟨h1, _⟩ | ⟨g', c', cur, h1, _, hb, _⟩
  · injection h1 with h1; rw [h1] at e; cases e
  · injection h1 with h1
    rw [h1] at e
    injection e with e; injection e with e1
    subst e1
    exact ⟨cur, hb⟩
/-- A slice of numbers. -/
def IsL (e : Ending) (w w' : World) (l : List Int) : Prop := ∃ A cap, e = .returned (.slice A l.length cap) ∧ Sl w' 1 A l.length cap (ints l) ∧ InI w' A ∧ Fr Nob w w'
theorem tell_0 (w : World) (c : CF) (A : Option Addr) (cap : Nat) : Calls Tryd.prog 63 #[.agg (cfA c A cap)] w fun e w' => IsL e w w' (tellC c 0) := by
  have HR := Lib.hid (show tellC c 0 = [c.sources] from rfl)
  unfold cfA
  go_enter Tryd.func63, Tryd.ntmps63
  go_wp2
  go_ret
  rw [HR.out]
  refine ⟨_, _, rfl, ?_, InI.one (Blk.new_eq (by simp)), ((Fr.refl _ _).alloc _).alloc _⟩
  refine Sl.new1 (t := 2) (cs := #[.int .i64 (c.sources)]) ?_ 1 1 rfl (by decide)
  exact Blk.new_eq (by simp)
theorem tell_1 (w : World) (c : CF) (A : Option Addr) (cap : Nat) : Calls Tryd.prog 65 #[.agg (cfA c A cap)] w fun e w' => IsL e w w' (tellC c 1) := by
  have HR := Lib.hid (show tellC c 1 = [c.room] from rfl)
  unfold cfA
  go_enter Tryd.func65, Tryd.ntmps65
  go_wp2
  go_ret
  rw [HR.out]
  refine ⟨_, _, rfl, ?_, InI.one (Blk.new_eq (by simp)), ((Fr.refl _ _).alloc _).alloc _⟩
  refine Sl.new1 (t := 2) (cs := #[.int .i64 (c.room)]) ?_ 1 1 rfl (by decide)
  exact Blk.new_eq (by simp)
theorem tell_4 (w : World) (c : CF) (A : Option Addr) (cap : Nat) : Calls Tryd.prog 72 #[.agg (cfA c A cap)] w fun e w' => IsL e w w' (tellC c 4) := by
  have HR := Lib.hid (show tellC c 4 = [c.quantum] from rfl)
  unfold cfA
  go_enter Tryd.func72, Tryd.ntmps72
  go_wp2
  go_ret
  rw [HR.out]
  refine ⟨_, _, rfl, ?_, InI.one (Blk.new_eq (by simp)), ((Fr.refl _ _).alloc _).alloc _⟩
  refine Sl.new1 (t := 2) (cs := #[.int .i64 (c.quantum)]) ?_ 1 1 rfl (by decide)
  exact Blk.new_eq (by simp)
theorem tell_5 (w : World) (c : CF) (A : Option Addr) (cap : Nat) : Calls Tryd.prog 74 #[.agg (cfA c A cap)] w fun e w' => IsL e w w' (tellC c 5) := by
  have HR := Lib.hid (show tellC c 5 = [c.timeout] from rfl)
  unfold cfA
  go_enter Tryd.func74, Tryd.ntmps74
  go_wp2
  go_ret
  rw [HR.out]
  refine ⟨_, _, rfl, ?_, InI.one (Blk.new_eq (by simp)), ((Fr.refl _ _).alloc _).alloc _⟩
  refine Sl.new1 (t := 2) (cs := #[.int .i64 (c.timeout)]) ?_ 1 1 rfl (by decide)
  exact Blk.new_eq (by simp)
theorem tell_6 (w : World) (c : CF) (A : Option Addr) (cap : Nat) : Calls Tryd.prog 76 #[.agg (cfA c A cap)] w fun e w' => IsL e w w' (tellC c 6) := by
  have HR := Lib.hid (show tellC c 6 = [c.patience] from rfl)
  unfold cfA
  go_enter Tryd.func76, Tryd.ntmps76
  go_wp2
  go_ret
  rw [HR.out]
  refine ⟨_, _, rfl, ?_, InI.one (Blk.new_eq (by simp)), ((Fr.refl _ _).alloc _).alloc _⟩
  refine Sl.new1 (t := 2) (cs := #[.int .i64 (c.patience)]) ?_ 1 1 rfl (by decide)
  exact Blk.new_eq (by simp)
theorem take_0 (w : World) (c : CF) (A B : Option Addr) (cap b d : Nat) (v : Int) (hb : Blk w b 43 (cfA c A cap)) (hs : Sl w 1 B 1 d (ints [v])) :
    Calls Tryd.prog 62 #[.pointer (some ⟨b, 0, none⟩), .slice B 1 d] w fun e w' => e = .returned (.tuple #[]) ∧ Blk w' b 43 (cfA (setC c 0 [v]) A cap) ∧ Fr (Only b) w w' := by
  obtain ⟨g, off, v0, rfl, hg, hv, hc⟩ := Sl.at_ hs (k := 0) (by decide)
  obtain rfl : v0 = .int .i64 v := by simpa [ints] using hv.symm
  clear hv
  rw [Nat.add_zero] at hc
  have HB := Lib.hid hb
  have hl := hb.lt
  have hz := hb.frozen 0
  have hq := hb.cell 0
  simp only [cfA] at hq
  clear hb hs
  go_enter Tryd.func62, Tryd.ntmps62
  go_wp2
  go_end0
  refine ⟨rfl, HB.out.set 0 _, (Fr.refl (Only b) _).setCell (p := ⟨b, 0, none⟩) (fun _ => rfl) _⟩
theorem take_1 (w : World) (c : CF) (A B : Option Addr) (cap b d : Nat) (v : Int) (hb : Blk w b 43 (cfA c A cap)) (hs : Sl w 1 B 1 d (ints [v])) :
    Calls Tryd.prog 64 #[.pointer (some ⟨b, 0, none⟩), .slice B 1 d] w fun e w' => e = .returned (.tuple #[]) ∧ Blk w' b 43 (cfA (setC c 1 [v]) A cap) ∧ Fr (Only b) w w' := by
  obtain ⟨g, off, v0, rfl, hg, hv, hc⟩ := Sl.at_ hs (k := 0) (by decide)
  obtain rfl : v0 = .int .i64 v := by simpa [ints] using hv.symm
  clear hv
  rw [Nat.add_zero] at hc
  have HB := Lib.hid hb
  have hl := hb.lt
  have hz := hb.frozen 1
  have hq := hb.cell 1
  simp only [cfA] at hq
  clear hb hs
  go_enter Tryd.func64, Tryd.ntmps64
  go_wp2
  go_end0
  refine ⟨rfl, HB.out.set 1 _, (Fr.refl (Only b) _).setCell (p := ⟨b, 1, none⟩) (fun _ => rfl) _⟩
theorem take_4 (w : World) (c : CF) (A B : Option Addr) (cap b d : Nat) (v : Int) (hb : Blk w b 43 (cfA c A cap)) (hs : Sl w 1 B 1 d (ints [v])) :
    Calls Tryd.prog 71 #[.pointer (some ⟨b, 0, none⟩), .slice B 1 d] w fun e w' => e = .returned (.tuple #[]) ∧ Blk w' b 43 (cfA (setC c 4 [v]) A cap) ∧ Fr (Only b) w w' := by
  obtain ⟨g, off, v0, rfl, hg, hv, hc⟩ := Sl.at_ hs (k := 0) (by decide)
  obtain rfl : v0 = .int .i64 v := by simpa [ints] using hv.symm
  clear hv
  rw [Nat.add_zero] at hc
  have HB := Lib.hid hb
  have hl := hb.lt
  have hz := hb.frozen 4
  have hq := hb.cell 4
  simp only [cfA] at hq
  clear hb hs
  go_enter Tryd.func71, Tryd.ntmps71
  go_wp2
  go_end0
  refine ⟨rfl, HB.out.set 4 _, (Fr.refl (Only b) _).setCell (p := ⟨b, 4, none⟩) (fun _ => rfl) _⟩
theorem take_5 (w : World) (c : CF) (A B : Option Addr) (cap b d : Nat) (v : Int) (hb : Blk w b 43 (cfA c A cap)) (hs : Sl w 1 B 1 d (ints [v])) :
    Calls Tryd.prog 73 #[.pointer (some ⟨b, 0, none⟩), .slice B 1 d] w fun e w' => e = .returned (.tuple #[]) ∧ Blk w' b 43 (cfA (setC c 5 [v]) A cap) ∧ Fr (Only b) w w' := by
  obtain ⟨g, off, v0, rfl, hg, hv, hc⟩ := Sl.at_ hs (k := 0) (by decide)
  obtain rfl : v0 = .int .i64 v := by simpa [ints] using hv.symm
  clear hv
  rw [Nat.add_zero] at hc
  have HB := Lib.hid hb
  have hl := hb.lt
  have hz := hb.frozen 5
  have hq := hb.cell 5
  simp only [cfA] at hq
  clear hb hs
  go_enter Tryd.func73, Tryd.ntmps73
  go_wp2
  go_end0
  refine ⟨rfl, HB.out.set 5 _, (Fr.refl (Only b) _).setCell (p := ⟨b, 5, none⟩) (fun _ => rfl) _⟩
theorem take_6 (w : World) (c : CF) (A B : Option Addr) (cap b d : Nat) (v : Int) (hb : Blk w b 43 (cfA c A cap)) (hs : Sl w 1 B 1 d (ints [v])) :
    Calls Tryd.prog 75 #[.pointer (some ⟨b, 0, none⟩), .slice B 1 d] w fun e w' => e = .returned (.tuple #[]) ∧ Blk w' b 43 (cfA (setC c 6 [v]) A cap) ∧ Fr (Only b) w w' := by
  obtain ⟨g, off, v0, rfl, hg, hv, hc⟩ := Sl.at_ hs (k := 0) (by decide)
  obtain rfl : v0 = .int .i64 v := by simpa [ints] using hv.symm
  clear hv
  rw [Nat.add_zero] at hc
  have HB := Lib.hid hb
  have hl := hb.lt
  have hz := hb.frozen 6
  have hq := hb.cell 6
  simp only [cfA] at hq
  clear hb hs
  go_enter Tryd.func75, Tryd.ntmps75
  go_wp2
  go_end0
  refine ⟨rfl, HB.out.set 6 _, (Fr.refl (Only b) _).setCell (p := ⟨b, 6, none⟩) (fun _ => rfl) _⟩
theorem take_2 (w : World) (c : CF) (A B : Option Addr) (cap b d : Nat) (v : Int) (hb : Blk w b 43 (cfA c A cap)) (hs : Sl w 1 B 1 d (ints [v])) :
    Calls Tryd.prog 66 #[.pointer (some ⟨b, 0, none⟩), .slice B 1 d] w fun e w' => e = .returned (.tuple #[]) ∧ Blk w' b 43 (cfA (setC c 2 [v]) A cap) ∧ Fr (Only b) w w' := by
  obtain ⟨g, off, v0, rfl, hg, hv, hc⟩ := Sl.at_ hs (k := 0) (by decide)
  obtain rfl : v0 = .int .i64 v := by simpa [ints] using hv.symm
  clear hv
  rw [Nat.add_zero] at hc
  have HB := Lib.hid hb
  have hl := hb.lt
  have hz := hb.frozen 2
  have hq := hb.cell 2
  simp only [cfA] at hq
  clear hb hs
  go_enter Tryd.func66, Tryd.ntmps66
  go_wp2
  go_end0
  refine ⟨rfl, ?_, (Fr.refl (Only b) _).setCell (p := ⟨b, 2, none⟩) (fun _ => rfl) _⟩
  have := HB.out.set 2 (.bool (v == 1))
  exact this
end Go.Proofs.YtoegdmpmagbaiaaDoor
