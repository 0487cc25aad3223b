/- Events in memory (for a seat without the stable sort). -/
import Derived.Test.YtkmicfjcikilhaaGreatDoorQW6
namespace Go.Proofs.YtkmicfjcikilhaaGreatDoor
open Go.RowKit Go.Sort Go.Lib

structure Ev where
  s : Int
  t : Int
  A : Option Addr
  c : Nat
  l : List PP
instance : Inhabited Ev := ⟨⟨0, 0, none, 0, []⟩⟩
def evc (e : Ev) : List Value := [.int .u64 e.s, .int .i64 e.t, .slice e.A e.l.length e.c]
theorem evc_len (x : Ev) : (evc x).length = 3 := rfl
/-- Events in memory, with their propositions. -/
structure ESl (w : World) (A : Option Addr) (c : Nat) (es : List Ev) : Prop where
  sl : Sl w 3 A es.length c (es.flatMap evc)
  inn : ∀ e ∈ es, Sl w 2 e.A e.l.length e.c (e.l.flatMap pcs)
theorem ESl.pure {w w' : World} {A : Option Addr} {c : Nat} {es : List Ev} (h : ESl w A c es) (hf : Fr Nob w w') : ESl w' A c es := ⟨h.sl.pure hf, fun p hp => (h.inn p hp).pure hf⟩
theorem ev_at {w : World} {A : Option Addr} {c n : Nat} {es : List Ev} (hn : n = es.length) (h : Sl w 3 A n c (es.flatMap evc)) {k : Nat} (hk : k < es.length) : ∃ b off, A = some ⟨b, off, none⟩ ∧ b < w.heap.size ∧ w.cell? ⟨b, off + k * 3, none⟩ = some (.int .u64 es[k].s) ∧ w.cell? ⟨b, off + k * 3 + 1, none⟩ = some (.int .i64 es[k].t) ∧ w.cell? ⟨b, off + k * 3 + 2, none⟩ = some (.slice es[k].A es[k].l.length es[k].c) := by
  subst hn
  obtain ⟨b, off, hA, hb, hc⟩ := Sl.row (size := 3) evc_len h hk
  exact ⟨b, off, hA, hb, by simpa using hc 0 _ rfl, by simpa [Nat.add_assoc] using hc 1 _ rfl, by simpa [Nat.add_assoc] using hc 2 _ rfl⟩
def Ev.pt (e : Ev) : Pt := (e.t, e.l)
end Go.Proofs.YtkmicfjcikilhaaGreatDoor
