/- The program's policies and settings; the policies' search. -/
import Derived.Test.YtidhlfcmjpnhgaaGreatDoorSG
import Derived.Deep.QuietTactic
import Derived.Test.YtidhlfcmjpnhgaaGreatDoorSA
namespace Go.Proofs.YtidhlfcmjpnhgaaGreatDoor
open Go.RowKit Go.Lib

def strV (l : List UInt8) : Value := .string ⟨l.toArray⟩
def strs (ws : List (List UInt8)) : List Value := ws.map strV
def polA : Array Value := #[.string ⟨#[116, 97, 105, 108]⟩, .string ⟨#[111, 108, 100, 101, 115, 116]⟩]
def polI (x : List UInt8) : Int := if x = tailC then 0 else if x = oldC then 1 else -1
end Go.Proofs.YtidhlfcmjpnhgaaGreatDoor

/- What the settings set and tell. -/
namespace Go.Proofs.YtidhlfcmjpnhgaaGreatDoor
open Go.RowKit Go.Lib

def ints (l : List Int) : List Value := l.map fun v => .int .i64 v
theorem ints_len (l : List Int) : (ints l).length = l.length := by simp [ints]
/-- A configuration's cells. -/
def cfA (c : CF) (A : Option Addr) (cap : Nat) : Array Value := #[.int .i64 c.sources, .int .i64 c.room, .bool c.oldest, .slice A c.weights.length cap, .int .i64 c.quantum, .int .i64 c.timeout, .int .i64 c.patience]
/-- The slice lies in a block of numbers. -/
def InI (w : World) (A : Option Addr) : Prop := ∀ g o, A = some ⟨g, o, none⟩ → ∃ cs, Blk w g 2 cs
theorem InI.one {w : World} {g : Nat} {cs : Array Value} (h : Blk w g 2 cs) : InI w (some ⟨g, 0, none⟩) := fun g' o e => by
  injection e with e; injection e with e1
  subst e1
  exact ⟨cs, h⟩
theorem InI.own {w : World} {base n c : Nat} {A : Option Addr} {xs : List Value} (h : w.ownsRow base 2 1 (.slice A n c) n xs) : InI w A := fun g o e => by
  rcases h.2 with ⟨h1, _⟩ | ⟨g', c', cur, h1, _, hb, _⟩
  · injection h1 with h1; rw [h1] at e; cases e
  · injection h1 with h1
    rw [h1] at e
    injection e with e; injection e with e1
    subst e1
    exact ⟨cur, hb⟩
/-- A slice of numbers. -/
def IsL (e : Ending) (w w' : World) (l : List Int) : Prop := ∃ A cap, e = .returned (.slice A l.length cap) ∧ Sl w' 1 A l.length cap (ints l) ∧ InI w' A ∧ Fr Nob w w'
end Go.Proofs.YtidhlfcmjpnhgaaGreatDoor

/- The settings that tell or set many numbers, and the policy's. -/
namespace Go.Proofs.YtidhlfcmjpnhgaaGreatDoor
open Go.RowKit Go.Lib

theorem elemJ : ElemT Tryz.prog 85 3 1 8 := ElemT.mk (z := .int .i64 0) Tryz.underlying85 (by kernel_rfl) (by kernel_rfl) (by decide)
theorem elemStr : ElemT Tryz.prog 48 9 1 16 := ElemT.mk (z := .string default) Tryz.underlying48 (by kernel_rfl) (by kernel_rfl) (by decide)
/-- A row of one-cell elements that is being made. -/
structure Ap (w wr : World) (b : Nat) (e : TypeId) (A : Option Addr) (c n : Nat) (o : List Value) : Prop where
  fr : Fr Nob w wr
  own : wr.ownsRow b e 1 (.slice A n c) n o
  lo : w.heap.size ≤ b
  hi : b ≤ wr.heap.size
section
variable {w wr w1 : World} {b : Nat} {e : TypeId} {A : Option Addr} {c n : Nat} {o : List Value}
theorem Ap.start (h : Fr Nob w wr) (hb : w.heap.size ≤ b) (hi : b ≤ wr.heap.size) : Ap w wr b e none 0 0 [] := ⟨h, ⟨rfl, .inl ⟨rfl, rfl⟩⟩, hb, hi⟩
theorem Ap.pure (h : Ap w wr b e A c n o) (hf : Fr Nob wr w1) : Ap w w1 b e A c n o := ⟨h.fr.call hf (fun _ h _ => h), own_fr h.own hf (fun _ _ _ _ e => e), h.lo, Nat.le_trans h.hi hf.size⟩
theorem Ap.own_al (h : Ap w wr b e A c n o) (ob : Obj) : (wr.alloc ob).ownsRow b e 1 (.slice A n c) n o := (h.pure ((Fr.refl Nob wr).alloc ob)).own
theorem Ap.app {A' : Option Addr} {c' m : Nat} {o' : List Value} (h : Ap w wr b e A c n o) (hown : w1.ownsRow b e 1 (.slice A' m c') m o') (hg : wr.grownBy w1 (A.map (·.block))) : Ap w w1 b e A' c' m o' :=
  ⟨h.fr.grown hg (fun k hk hlt => by have := own_base h.own k hk; have := h.lo; omega), hown, h.lo, Nat.le_trans h.hi hg.size⟩
theorem Ap.far (h : Ap w wr b e A c n o) (hg : wr.grownBy w1 (A.map (·.block))) {g : Nat} {t : TypeId} {cs : Array Value} (hb : Blk wr g t cs) (hlt : g < b) : Blk w1 g t cs :=
  hb.grown hg (fun q => by have := own_base h.own _ q; omega)
theorem Ap.sl (h : Ap w wr b e A c n o) : Sl wr 1 A n c o := Sl.of_own h.own
end
theorem ints_at {l : List Int} {k : Nat} (h : k < l.length) {v : Value} (hv : (ints l)[k]? = some v) : v = .int .i64 l[k] := by
  unfold ints at hv
  rw [List.getElem?_map, List.getElem?_eq_getElem h] at hv
  injection hv with hv
  exact hv.symm
theorem ints_snoc {l : List Int} {k : Nat} (h : k < l.length) : ints (l.take k) ++ [.int .i64 l[k]] = ints (l.take (k + 1)) := by
  rw [List.take_succ_eq_append_getElem h]
  unfold ints
  rw [List.map_append]
  rfl
theorem ints_all {l : List Int} {k : Nat} (h : l.length ≤ k) : ints (l.take k) = ints l := by rw [List.take_of_length_le h]
theorem Sl.int_at {w : World} {A : Option Addr} {cap : Nat} {l : List Int} {k : Nat} (h : Sl w 1 A l.length cap (ints l)) (hk : k < l.length) : ∃ b off, A = some ⟨b, off, none⟩ ∧ b < w.heap.size ∧ w.cell? ⟨b, off + k, none⟩ = some (.int .i64 l[k]) := by
  obtain ⟨b, off, v, hA, hb, hv, hc⟩ := h.at_ hk
  rw [ints_at hk hv] at hc
  exact ⟨b, off, hA, hb, hc⟩
def strB (ws : List ByteArray) : List Value := ws.map .string
def bl (ws : List ByteArray) : List (List UInt8) := ws.map (·.data.toList)
theorem Sl.str_at {w : World} {A : Option Addr} {n cap : Nat} {l : List ByteArray} {k : Nat} (h : Sl w 1 A n cap (strB l)) (hk : k < l.length) : ∃ b off, A = some ⟨b, off, none⟩ ∧ b < w.heap.size ∧ w.cell? ⟨b, off + k, none⟩ = some (.string l[k]) := by
  have hn : l.length = n := by have := h.len; simpa [strB] using this
  obtain ⟨b, off, v, hA, hb, hv, hc⟩ := h.at_ (by omega : k < n)
  unfold strB at hv
  rw [List.getElem?_map, List.getElem?_eq_getElem hk] at hv
  injection hv with hv
  rw [← hv] at hc
  exact ⟨b, off, hA, hb, hc⟩
theorem bl_at {l : List ByteArray} {j : Nat} (h : j < l.length) : (bl l).take (j + 1) = (bl l).take j ++ [l[j].data.toList] := by
  have hb : j < (bl l).length := by simpa [bl] using h
  rw [List.take_succ_eq_append_getElem hb]
  simp [bl]
/-- A slice of texts. -/
def IsB (e : Ending) (w w' : World) (L : List (List UInt8)) : Prop := ∃ A n d ps, e = .returned (.slice A n d) ∧ bl ps = L ∧ Sl w' 1 A n d (strB ps) ∧ (∀ g o, A = some ⟨g, o, none⟩ → w.heap.size ≤ g) ∧ Fr Nob w w'
/-- The words without the first. -/
theorem words_tail {w : World} {h off d : Nat} {s : ByteArray} {rest : List ByteArray} (hw : Sl w 1 (some ⟨h, off, none⟩) (rest.length + 1) d (strB (s :: rest))) : ∃ A2 d2, (∀ W, (Instr.slice 48 (.slice (some ⟨h, off, none⟩) (rest.length + 1) d) (some (.int .i64 1)) none none).run Tryz.prog W = .ok (.slice A2 rest.length d2) W) ∧ Sl w 1 A2 rest.length d2 (strB rest) ∧ ∀ g o, A2 = some ⟨g, o, none⟩ → g = h := by
  refine ⟨_, _, fun W => run_cut elemStr (some ⟨h, off, none⟩) (n := rest.length + 1) (cap := d) 1 (by omega) W, hw.cut (k := 1) (by omega), fun g o e => ?_⟩
  split at e
  · injection e with e; injection e with e1; exact e1.symm
  · simp only [Option.map_some, add_addr] at e
    injection e with e; injection e with e1; exact e1.symm
theorem pol_eq (l : List UInt8) : polC l = if 0 ≤ polI l then some (polI l) else none := by
  unfold polC polI
  split
  · rfl
  · split <;> rfl
end Go.Proofs.YtidhlfcmjpnhgaaGreatDoor
