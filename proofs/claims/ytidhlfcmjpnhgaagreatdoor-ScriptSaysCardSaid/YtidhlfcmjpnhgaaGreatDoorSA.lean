/- Words for memory that all my walks use: frames, whole blocks, slices that read as lists, appends. -/
import Derived.Test.YtidhlfcmjpnhgaaGreatDoorRows
import Derived.WalkKit
import Derived.Handy
import Derived.WalkLawsBesides
import Derived.WalkSpells
import Derived.BigQuiet
import Derived.Lib.Hide
import Derived.Outline
import Derived.Deep.AppendLies
import Derived.Deep.Draws
import Derived.ProofKit
import Derived.OpenShut
import Derived.JoinedCond
import Derived.Deep.Slices
import Derived.Laws.MakeOwn
import Derived.Deep.RegionHeld3
import Derived.IntWalk
import Derived.Deep.MidRow
namespace Go.Proofs.YtidhlfcmjpnhgaaGreatDoor
open Go.RowKit

theorem ret1i {k : IntKind} {a b : Int} (h : a = b) : Ending.returned (.int k a) = .returned (.int k b) := by rw [h]
theorem ret1b {a b : Bool} (h : a = b) : Ending.returned (.bool a) = .returned (.bool b) := by rw [h]
theorem ret1 {a b : Value} (h : a = b) : Ending.returned a = .returned b := by rw [h]
theorem ret2 {a b c d : Value} (h : a = c) (h' : b = d) : Ending.returned (.tuple #[a, b]) = .returned (.tuple #[c, d]) := by rw [h, h']
theorem ret3 {a b c d e f : Value} (h : a = d) (h' : b = e) (h2 : c = f) : Ending.returned (.tuple #[a, b, c]) = .returned (.tuple #[d, e, f]) := by rw [h, h', h2]
theorem vint {k : IntKind} {a b : Int} (h : a = b) : Value.int k a = .int k b := by rw [h]
theorem vbool {a b : Bool} (h : a = b) : Value.bool a = .bool b := by rw [h]

def I64 (a : Int) : Prop := -9223372036854775808 ≤ a ∧ a ≤ 9223372036854775807

/-- w' is w, but for the blocks of S and for new ones. -/
structure Fr (S : Nat → Prop) (w w' : World) : Prop where
  os : w'.os = w.os
  tape : w'.tape = w.tape
  output : w'.output = w.output
  size : w.heap.size ≤ w'.heap.size
  block : ∀ k, k < w.heap.size → ¬ S k → w'.heap[k]? = w.heap[k]?

def Nob : Nat → Prop := fun _ => False
def Only (b : Nat) : Nat → Prop := fun k => k = b

section
variable {S S' : Nat → Prop} {a w w' : World}
theorem Fr.refl (S : Nat → Prop) (w : World) : Fr S w w := ⟨rfl, rfl, rfl, Nat.le_refl _, fun _ _ _ => rfl⟩
theorem Fr.trans (h : Fr S a w) (k : Fr S' w w') (hs : ∀ i, i < a.heap.size → S' i → S i) : Fr S a w' :=
  ⟨k.os.trans h.os, k.tape.trans h.tape, k.output.trans h.output, Nat.le_trans h.size k.size, fun i hi hn =>
    (k.block i (Nat.lt_of_lt_of_le hi h.size) (fun e => hn (hs i hi e))).trans (h.block i hi hn)⟩
theorem Fr.mono (h : Fr S a w) (hs : ∀ i, i < a.heap.size → S i → S' i) : Fr S' a w :=
  ⟨h.os, h.tape, h.output, h.size, fun i hi hn => h.block i hi fun e => hn (hs i hi e)⟩
theorem Fr.drew (h : Fr S a w) : Fr S a w.drew := ⟨h.os, h.tape, h.output, h.size, h.block⟩
theorem Fr.drewN (h : Fr S a w) (n : Nat) : Fr S a (w.drewN n) := ⟨h.os, h.tape, h.output, h.size, h.block⟩
theorem Fr.alloc (h : Fr S a w) (o : Obj) : Fr S a (w.alloc o) :=
  ⟨h.os, h.tape, h.output, by simp; have := h.size; omega, fun i hi hn => (Below.heap_alloc w o i (by have := h.size; omega)).trans (h.block i hi hn)⟩
theorem Fr.setCell (h : Fr S a w) {p : Addr} (hp : p.block < a.heap.size → S p.block) (v : Value) : Fr S a (w.setCell p v) :=
  ⟨h.os, h.tape, h.output, by simp; exact h.size, fun i hi hn => (Below.heap_setCell w p v i (fun e => hn (by subst e; exact hp hi))).trans (h.block i hi hn)⟩
theorem Fr.grown (h : Fr S a w) {row : Option Nat} (hg : w.grownBy w' row) (hr : ∀ k, row = some k → k < a.heap.size → S k) : Fr S a w' :=
  ⟨hg.os.trans h.os, hg.tape.trans h.tape, hg.output.trans h.output, Nat.le_trans h.size hg.size, fun i hi hn =>
    (hg.block i (Nat.lt_of_lt_of_le hi h.size) (fun e => hn (hr i e.symm hi))).trans (h.block i hi hn)⟩
theorem Fr.of_below (h : Below w.heap.size w w') : Fr S w w' := ⟨h.os, h.tape, h.output, h.size, fun k hk _ => h.block k hk⟩
theorem Fr.below (h : Fr Nob w w') : Below w.heap.size w w' := ⟨h.os, h.tape, h.output, h.size, fun k hk => h.block k hk (fun e => e)⟩
theorem Fr.cell (h : Fr S w w') {p : Addr} {v : Value} (hc : w.cell? p = some v) (hp : ¬ S p.block) : w'.cell? p = some v :=
  (World.cell?_of_block (h.block p.block (World.block_lt_of_cell? w p hc) hp)).trans hc
theorem Fr.call (h : Fr S a w) (k : Fr S' w w') (hs : ∀ i, S' i → i < a.heap.size → S i) : Fr S a w' := h.trans k fun i hi e => hs i e hi
end

/-- Block g is just the cells cs of element type t, none frozen. -/
def Blk (w : World) (g : Nat) (t : TypeId) (cs : Array Value) : Prop := w.heap[g]? = some (.cells cs t (0, 0))
section
variable {S : Nat → Prop} {w w' : World} {g : Nat} {t : TypeId} {cs : Array Value}
theorem Blk.lt (h : Blk w g t cs) : g < w.heap.size := by
  rcases Nat.lt_or_ge g w.heap.size with hlt | hge
  · exact hlt
  · unfold Blk at h; rw [Array.getElem?_eq_none hge] at h; cases h
theorem Blk.cell (h : Blk w g t cs) (i : Nat) : w.cell? ⟨g, i, none⟩ = cs[i]? := cell_of_row w g i cs t (0, 0) h
theorem Blk.frozen (h : Blk w g t cs) (i : Nat) : w.frozen? ⟨g, i, none⟩ = false := by
  unfold Blk at h
  simp [World.frozen?, h]
theorem Blk.new (w : World) (t : TypeId) (cs : Array Value) : Blk (w.alloc (.cells cs t)) w.heap.size t cs := heap_alloc_new w _
theorem Blk.new_eq {w : World} {g : Nat} {t : TypeId} {cs : Array Value} (h : g = w.heap.size) : Blk (w.alloc (.cells cs t)) g t cs := by subst h; exact Blk.new _ _ _
theorem Blk.drew (h : Blk w g t cs) : Blk w.drew g t cs := h
theorem Blk.drewN (h : Blk w g t cs) (n : Nat) : Blk (w.drewN n) g t cs := h
theorem Blk.alloc (h : Blk w g t cs) (o : Obj) : Blk (w.alloc o) g t cs := (Below.heap_alloc w o g h.lt).trans h
theorem Blk.set (h : Blk w g t cs) (i : Nat) (u : Value) : Blk (w.setCell ⟨g, i, none⟩ u) g t (cs.setIfInBounds i u) := by
  unfold Blk at h ⊢
  simp [World.setCell, Array.getElem?_modify, h]
theorem Blk.far (h : Blk w g t cs) {p : Addr} (hp : g ≠ p.block) (u : Value) : Blk (w.setCell p u) g t cs := (Below.heap_setCell w p u g hp).trans h
theorem Blk.fr (h : Blk w g t cs) (hb : Fr S w w') (hg : ¬ S g) : Blk w' g t cs := (hb.block g h.lt hg).trans h
theorem Blk.grown {row : Option Nat} (h : Blk w g t cs) (hb : w.grownBy w' row) (hg : row ≠ some g) : Blk w' g t cs := (hb.block g h.lt (fun e => hg e.symm)).trans h
end

/-- The slice '.slice A n cap' reads as the cells xs (size cells an element). -/
structure Sl (w : World) (size : Nat) (A : Option Addr) (n cap : Nat) (xs : List Value) : Prop where
  len : xs.length = n * size
  le : n ≤ cap
  max : cap ≤ maxLen
  nil : A = none → cap = 0
  cells : 0 < n → ∃ b off, A = some ⟨b, off, none⟩ ∧ b < w.heap.size ∧ ∀ j u, xs[j]? = some u → w.cell? ⟨b, off + j, none⟩ = some u

section
variable {S : Nat → Prop} {w w' : World} {size n cap : Nat} {A : Option Addr} {xs : List Value}
theorem Sl.none_ (w : World) (size : Nat) : Sl w size none 0 0 [] := ⟨by simp, Nat.le_refl _, by simp, fun _ => rfl, fun h => absurd h (by omega)⟩
theorem Sl.keep (h : Sl w size A n cap xs) (hk : ∀ b off, A = some ⟨b, off, none⟩ → 0 < n → b < w.heap.size → w'.heap[b]? = w.heap[b]?) : Sl w' size A n cap xs :=
  ⟨h.len, h.le, h.max, h.nil, fun hn => by
    obtain ⟨b, off, e, hb, hc⟩ := h.cells hn
    have hk' := hk b off e hn hb
    refine ⟨b, off, e, ?_, fun j u hu => (World.cell?_of_block (w := w) (w' := w') (a := ⟨b, off + j, none⟩) hk').trans (hc j u hu)⟩
    rcases Nat.lt_or_ge b w'.heap.size with hlt | hge
    · exact hlt
    · rw [Array.getElem?_eq_none hge, Array.getElem?_eq_getElem hb] at hk'; cases hk'⟩
theorem Sl.fr (h : Sl w size A n cap xs) (hb : Fr S w w') (hs : ∀ b off, A = some ⟨b, off, none⟩ → 0 < n → ¬ S b) : Sl w' size A n cap xs :=
  h.keep fun b off e hn hlt => hb.block b hlt (hs b off e hn)
theorem Sl.pure (h : Sl w size A n cap xs) (hb : Fr Nob w w') : Sl w' size A n cap xs := h.fr hb fun _ _ _ _ e => e
theorem Sl.alloc (h : Sl w size A n cap xs) (o : Obj) : Sl (w.alloc o) size A n cap xs := h.keep fun b _ _ _ hlt => Below.heap_alloc w o b hlt
theorem Sl.drew (h : Sl w size A n cap xs) : Sl w.drew size A n cap xs := h.keep fun _ _ _ _ _ => rfl
theorem Sl.drewN (h : Sl w size A n cap xs) (k : Nat) : Sl (w.drewN k) size A n cap xs := h.keep fun _ _ _ _ _ => rfl
theorem Sl.set (h : Sl w size A n cap xs) {p : Addr} (hp : ∀ b off, A = some ⟨b, off, none⟩ → b ≠ p.block) (u : Value) : Sl (w.setCell p u) size A n cap xs :=
  h.keep fun b off e _ _ => Below.heap_setCell w p u b (hp b off e)
theorem Sl.of_own {base : Nat} {e : TypeId} (h : w.ownsRow base e size (.slice A n cap) n xs) : Sl w size A n cap xs := by
  refine ⟨h.1, ?_, ?_, ?_, fun hn => ?_⟩
  · rcases h.2 with ⟨h1, h2⟩ | ⟨g, c, cur, h1, _, _, h2, _⟩
    · simp only [Value.slice.injEq] at h1; omega
    · simp only [Value.slice.injEq] at h1; omega
  · rcases h.2 with ⟨h1, h2⟩ | ⟨g, c, cur, h1, _, _, h2, h3, _⟩
    · simp only [Value.slice.injEq] at h1; omega
    · simp only [Value.slice.injEq] at h1; omega
  · rcases h.2 with ⟨h1, h2⟩ | ⟨g, c, cur, h1, _, _, h2, h3, _⟩
    · simp only [Value.slice.injEq] at h1; exact fun _ => h1.2.2
    · simp only [Value.slice.injEq] at h1; intro e; rw [e] at h1; exact absurd h1.1 (by simp)
  · obtain ⟨g, c, hv, _, hlt⟩ := h.form hn
    simp only [Value.slice.injEq] at hv
    refine ⟨g, 0, hv.1, hlt, fun j u hu => ?_⟩
    have := h.cells (g := g) (by rw [hv.1]; rfl) j u hu
    rw [Nat.zero_add]
    simpa [Addr.add] using (by unfold Addr.add at this; split at this <;> simp_all : w.cell? ⟨g, j, none⟩ = some u)
end

theorem Sl.at_ {w : World} {n cap : Nat} {A : Option Addr} {xs : List Value} {k : Nat} (h : Sl w 1 A n cap xs) (hk : k < n) :
    ∃ b off u, A = some ⟨b, off, none⟩ ∧ b < w.heap.size ∧ xs[k]? = some u ∧ w.cell? ⟨b, off + k, none⟩ = some u := by
  obtain ⟨b, off, e, hb, hc⟩ := h.cells (by omega)
  have hl : k < xs.length := by rw [h.len]; omega
  exact ⟨b, off, xs[k], e, hb, List.getElem?_eq_getElem hl, hc k _ (List.getElem?_eq_getElem hl)⟩

/-- The slice's block is none of lo .. hi - 1 (a caller's own boxes). -/
def Off (A : Option Addr) (lo hi : Nat) : Prop := ∀ g off, A = some ⟨g, off, none⟩ → g < lo ∨ hi ≤ g
theorem Off.none_ (lo hi : Nat) : Off none lo hi := fun _ _ e => by cases e
theorem Off.of_lt {b off lo hi : Nat} (h : b < lo) : Off (some ⟨b, off, none⟩) lo hi := fun g o e => by cases e; exact .inl h
theorem Off.of_ge {b off lo hi : Nat} (h : hi ≤ b) : Off (some ⟨b, off, none⟩) lo hi := fun g o e => by cases e; exact .inr h
theorem Off.ne {A : Option Addr} {lo hi g : Nat} (h : Off A lo hi) (h1 : lo ≤ g) (h2 : g < hi) : ∀ off, A ≠ some ⟨g, off, none⟩ := fun off e => by
  rcases h g off e with h | h <;> omega
/-- Where an appended slice lies: where the elder one lay, or in block g. -/
def Lies (A' A : Option Addr) (g : Nat) : Prop := A'.map (·.block) = A.map (·.block) ∨ A'.map (·.block) = some g
/-- What the walk must know of a slice type and its elements. -/
def ElemT (P : Program) (t e : TypeId) (size bytes : Nat) : Prop :=
  P.underlying t = some (.slice e) ∧ 0 < size ∧ ∃ i z, P.info? e = some i ∧ i.zero = some z ∧ i.size = size ∧ i.bytes = bytes ∧ z.cells.size = size
theorem ElemT.mk {P : Program} {t e : TypeId} {size bytes : Nat} {z : Value} (ht : P.underlying t = some (.slice e)) (h : (P.info? e).map (fun i => (i.zero, i.size, i.bytes)) = some (some z, size, bytes))
    (hz : z.cells.size = size) (hs : 0 < size) : ElemT P t e size bytes := by
  obtain ⟨i, h1, h2, h3, h4⟩ := info_parts h
  exact ⟨ht, hs, i, z, h1, h2, h3, h4, hz⟩

theorem add_zero_addr (b off j : Nat) : (⟨b, off, none⟩ : Addr).add j = ⟨b, off + j, none⟩ := by
  unfold Addr.add; split <;> simp_all

section
variable {P : Program} {w : World} {ops : Array Oper} {rest : List Oper} {o : Oper} {a : Act} {Q : Exit → Act → World → Prop}
theorem wpList_app (hgd : o.guard = none) (s x : Operand) (t : TypeId)
    (ho : o.op = .call { callee := .builtin .append, args := #[s, x], argTypes := #[t, t] })
    {e : TypeId} {size bytes : Nat} (hE : ElemT P t e size bytes) {base : Nat}
    {A : Option Addr} {n cap : Nat} {xs : List Value} (hs : a.eval s = .slice A n cap) (hown : w.ownsRow base e size (.slice A n cap) n xs)
    {A2 : Option Addr} {m c : Nat} {news : List Value} (hx : a.eval x = .slice A2 m c) (hsrc : Sl w size A2 m c news) (h1 : ∀ u ∈ news, u.oneCell' = true)
    (h63 : n + m ≤ maxLen) (hbytes : (n + m) * bytes ≤ 140737488355328) (hbase : base ≤ w.heap.size)
    (h : ∀ A' cap' w', w'.ownsRow base e size (.slice A' (n + m) cap') (n + m) (xs ++ news) → w.grownBy w' (A.map (·.block)) →
      Lies A' A w.heap.size → wpList P ops Q rest (a.put o.dst (.slice A' (n + m) cap')) w') : wpList P ops Q (o :: rest) a w := by
  obtain ⟨ht, hsz, i, z, hi, hz, hsize, hby, hzs⟩ := hE
  have hob : (Value.slice A n cap).ownBlock = A.map (·.block) := by cases A <;> rfl
  rcases Nat.eq_zero_or_pos m with hm | hm
  · subst hm
    have hn0 : news = [] := List.eq_nil_of_length_eq_zero (by rw [hsrc.len]; omega)
    subst hn0
    cases A2 with
    | none =>
      have hc := hsrc.nil rfl
      subst hc
      refine wpList_plain hgd fun K hK => ?_
      have hrun := run_append_owned_none (P := P) (w := w) base t o.type e i size ht hi _ n xs hown
      unfold Oper.wp
      simp [execOp, ho, resolve, invoke, builtin, hs, hx, hrun, Result.andThen]
      exact hK _ _ (by simpa using h A cap w (by simpa using hown) ⟨rfl, rfl, rfl, Nat.le_refl _, fun _ _ _ => rfl⟩ (.inl rfl))
    | some ad =>
      obtain ⟨v', w', hr, h2, h3, h4, h5⟩ := run_append_own_at (P := P) w base t o.type e i z size bytes ht hi hz hsize hby hzs hsz _ n xs hown ad 0 c [] (by simp) (by simp) (by simp) h63 hbytes hbase
      refine wpList_plain hgd fun K hK => ?_
      unfold Oper.wp execOp
      simp only [ho, resolve, invoke, builtin, Sem.run_bind, Sem.run_pure, Result.andThen_ok, List.map_toArray, List.map_cons, List.map_nil, hs, hx, hr]
      have hv' : ∃ A' cap', v' = .slice A' (n + 0) cap' := by
        rcases h2.2 with ⟨h6, h7⟩ | ⟨g, c', cur, h6, _⟩
        · exact ⟨none, 0, by rw [h6, h7]⟩
        · exact ⟨_, _, h6⟩
      obtain ⟨A', cap', rfl⟩ := hv'
      have hob' : (Value.slice A' (n + 0) cap').ownBlock = A'.map (·.block) := by cases A' <;> rfl
      rw [hob] at h3 h5
      rw [hob'] at h5
      exact hK _ _ (h A' cap' w' h2 h3 h5)
  · obtain ⟨b, off, rfl, hb, hc⟩ := hsrc.cells hm
    obtain ⟨v', w', hr, h2, h3, h4, h5⟩ := run_append_own_at (P := P) w base t o.type e i z size bytes ht hi hz hsize hby hzs hsz _ n xs hown ⟨b, off, none⟩ m c news hsrc.len (fun j u hu => by rw [add_zero_addr]; exact hc j u hu) h1 h63 hbytes hbase
    refine wpList_plain hgd fun K hK => ?_
    unfold Oper.wp execOp
    simp only [ho, resolve, invoke, builtin, Sem.run_bind, Sem.run_pure, Result.andThen_ok, List.map_toArray, List.map_cons, List.map_nil, hs, hx, hr]
    obtain ⟨g, cap', rfl, _, _⟩ := h2.form (by omega)
    rw [hob] at h3 h5
    exact hK _ _ (h _ cap' w' h2 h3 h5)
end

theorem own_fr {S : Nat → Prop} {w w' : World} {base : Nat} {e : TypeId} {size : Nat} {v : Value} {n : Nat} {xs : List Value} (h : w.ownsRow base e size v n xs) (hf : Fr S w w') (hs : ∀ k, v.ownBlock = some k → base ≤ k → k < w.heap.size → ¬ S k) : w'.ownsRow base e size v n xs := by
  refine ⟨h.1, ?_⟩
  rcases h.2 with hn | ⟨g, cap, cur, rfl, hb, hgg, rest⟩
  · exact .inl hn
  · have hlt := (Array.getElem?_eq_some_iff.1 hgg).1
    exact .inr ⟨g, cap, cur, rfl, hb, (hf.block g hlt (hs g rfl hb hlt)).trans hgg, rest⟩

/-- Rows of different element types never share a block: what is appended to the one leaves the other. -/
theorem own_apart {w w' : World} {b1 b2 e1 e2 s1 s2 n1 n2 c1 c2 : Nat} {A1 A2 : Option Addr} {xs ys : List Value} (h : w.ownsRow b1 e1 s1 (.slice A1 n1 c1) n1 xs) (h2 : w.ownsRow b2 e2 s2 (.slice A2 n2 c2) n2 ys)
    (hne : e1 ≠ e2) (hg : w.grownBy w' (A2.map (·.block))) : w'.ownsRow b1 e1 s1 (.slice A1 n1 c1) n1 xs := by
  refine h.kept hg ?_
  rcases h.2 with ⟨h3, _⟩ | ⟨g, cap, cur, h3, _, hh, _⟩
  · left; simp only [Value.slice.injEq] at h3; rw [h3.1]; rfl
  · right
    simp only [Value.slice.injEq] at h3
    rw [h3.1]
    rcases h2.2 with ⟨h4, _⟩ | ⟨g2, cap2, cur2, h4, _, hh2, _⟩
    · simp only [Value.slice.injEq] at h4; rw [h4.1]; simp [Value.ownBlock]
    · simp only [Value.slice.injEq] at h4
      rw [h4.1]
      simp only [Value.ownBlock, Option.map_some, ne_eq, Option.some.injEq]
      rintro rfl
      rw [hh] at hh2
      injection hh2 with hh2
      injection hh2 with _ ht
      exact hne ht
/-- The block of an owned slice is one from the base on. -/
theorem own_base {w : World} {base : Nat} {e : TypeId} {size : Nat} {A : Option Addr} {c n : Nat} {xs : List Value} (h : w.ownsRow base e size (.slice A n c) n xs) : ∀ k, A.map (·.block) = some k → base ≤ k := by
  intro k hk
  have := h.lt k (by cases A <;> simp_all [Value.ownBlock])
  exact this.1
theorem own_addr {w : World} {base : Nat} {e : TypeId} {size : Nat} {A : Option Addr} {c n : Nat} {xs : List Value} (h : w.ownsRow base e size (.slice A n c) n xs) : ∀ g off, A = some ⟨g, off, none⟩ → base ≤ g := by
  intro g off hA
  exact own_base h g (by rw [hA]; rfl)

/-- the cells of a block that was just laid, as a slice over it -/
theorem Sl.new1 {w : World} {g : Nat} {t : TypeId} {cs : Array Value} (h : Blk w g t cs) (size n : Nat) (hn : cs.size = n * size) (hmax : n ≤ maxLen) : Sl w size (some ⟨g, 0, none⟩) n n cs.toList :=
  ⟨by simpa using hn, Nat.le_refl _, hmax, (fun e => by cases e), fun _ => ⟨g, 0, rfl, h.lt, fun j u hu => by rw [Nat.zero_add, h.cell]; simpa using hu⟩⟩

end Go.Proofs.YtidhlfcmjpnhgaaGreatDoor

/- From a statement's reading to the walks' words, and back: slices of rows; the close of every law that answers true and leaves what it was given. -/
namespace Go.Proofs.YtidhlfcmjpnhgaaGreatDoor
open Go.ChangeShapes Go.WideShapes Go.ChangeAt Go.RowKit Go.Deep

theorem exists_list {α : Type} (p : Nat → α → Prop) (n : Nat) (h : ∀ i, i < n → ∃ y, p i y) : ∃ l : List α, l.length = n ∧ ∀ i (hi : i < l.length), p i l[i] := by
  induction n with
  | zero => exact ⟨[], rfl, fun i hi => by simp at hi⟩
  | succ n ih =>
    obtain ⟨l, hl, hp⟩ := ih (fun i hi => h i (by omega))
    obtain ⟨y, hy⟩ := h n (by omega)
    refine ⟨l ++ [y], by simp [hl], fun i hi => ?_⟩
    by_cases hin : i < l.length
    · rw [List.getElem_append_left hin]; exact hp i hin
    · have : i = n := by simp at hi; omega
      subst this
      rw [List.getElem_append_right (by omega)]
      simpa [hl] using hy

/-- Rows of equal length, one behind the other: which cell stands at place i * size + j. -/
theorem flat_get {α : Type} (f : α → List Value) (size : Nat) (hf : ∀ y, (f y).length = size) : ∀ (l : List α) (i j : Nat) (hi : i < l.length), j < size → (l.flatMap f)[i * size + j]? = (f l[i])[j]? := by
  intro l
  induction l with
  | nil => intro i j hi; simp at hi
  | cons x l ih =>
    intro i j hi hj
    rw [List.flatMap_cons]
    cases i with
    | zero => rw [List.getElem?_append_left (by rw [hf]; omega)]; simp
    | succ i =>
      rw [List.getElem?_append_right (by rw [hf, Nat.add_mul]; omega), hf]
      have e : (i + 1) * size + j - size = i * size + j := by rw [Nat.add_mul]; omega
      rw [e]
      exact ih i j (by simpa using hi) hj
theorem flat_len {α : Type} (f : α → List Value) (size : Nat) (hf : ∀ y, (f y).length = size) (l : List α) : (l.flatMap f).length = l.length * size := by
  induction l with
  | nil => simp
  | cons x l ih => rw [List.flatMap_cons, List.length_append, hf, ih, List.length_cons, Nat.add_mul]; omega

/-- A cell of an element of a slice of rows. -/
theorem Sl.row {α : Type} {f : α → List Value} {size : Nat} (hf : ∀ y, (f y).length = size) {w : World} {A : Option Addr} {c : Nat} {l : List α} {k : Nat} (h : Sl w size A l.length c (l.flatMap f)) (hk : k < l.length) :
    ∃ b off, A = some ⟨b, off, none⟩ ∧ b < w.heap.size ∧ ∀ j u, (f l[k])[j]? = some u → w.cell? ⟨b, off + (k * size + j), none⟩ = some u := by
  obtain ⟨b, off, hA, hb, hc⟩ := h.cells (by omega)
  refine ⟨b, off, hA, hb, fun j u hu => hc _ _ ?_⟩
  have hj : j < size := by rw [← hf l[k]]; exact (List.getElem?_eq_some_iff.1 hu).1
  rw [flat_get f size hf l k j hk hj]; exact hu

section
variable {H : Type} {enc : TypeId × Value → H} {P : Program} {w : World} {base : Nat} {spare : Nat → Bool} {held : Bool}

theorem open_rows {α : Type} {t e : TypeId} {fuel : Nat} {cs : List Value} {x : DataW H × List MemPlace} (f : α → List Value) (good : α → Prop) (size : Nat) (hsz : 0 < size) (hf : ∀ y, (f y).length = size)
    (ht : P.underlying t = some (.slice e)) (hC : P.cellsOf e = size)
    (hone : ∀ n cs x, DataW.trod enc P w base spare held n e cs = some x → ∃ y, cs = f y ∧ good y)
    (h : DataW.trod enc P w base spare held fuel t cs = some x) :
    ∃ (A : Option Addr) (cap : Nat) (l : List α), cs = [.slice A l.length cap] ∧ Sl w size A l.length cap (l.flatMap f) ∧ ∀ y ∈ l, good y := by
  rcases open_slice ht h with ⟨hcs, _⟩ | ⟨a, len, cap, m, n, D, Pl, hcs, hb, hl, hm, hmm, hx, hi⟩
  · exact ⟨none, 0, [], hcs, Sl.none_ w size, fun y hy => by cases hy⟩
  · have hml : len ≤ m := by rw [hmm]; split <;> omega
    obtain ⟨l, hll, hp⟩ := exists_list (fun i y => (∀ j, j < size → w.cell? ((a.add (i * size)).add j) = (f y)[j]?) ∧ good y) len (fun i hlt => by
      obtain ⟨cs', h1, h2⟩ := hi i (by omega)
      rw [hC] at h1
      obtain ⟨_, _, h3⟩ := World.cells?_some h1
      obtain ⟨y, rfl, hy⟩ := hone _ _ _ h2
      exact ⟨y, h3, hy⟩)
    refine ⟨some a, cap, l, by rw [hll]; exact hcs, ⟨by rw [flat_len f size hf], by omega, hm, (fun e => by cases e), fun hn => ?_⟩, fun y hy => ?_⟩
    · have h0 := (hp 0 hn).1 0 hsz
      have hz : ∃ u, w.cell? a = some u := by
        have e : (a.add (0 * size)).add 0 = a := by simp [Addr.add]
        rw [e] at h0
        rw [h0, List.getElem?_eq_getElem (by rw [hf]; omega)]
        exact ⟨_, rfl⟩
      obtain ⟨u, hu⟩ := hz
      obtain ⟨b, off, sp⟩ := a
      have hsp : sp = none := by
        unfold World.cell? at hu
        cases sp with
        | none => rfl
        | some s => simp at hu; split at hu <;> simp at hu
      subst hsp
      refine ⟨b, off, rfl, World.block_lt_of_cell? w _ hu, fun j v hv => ?_⟩
      have hj : j < l.length * size := by rw [← flat_len f size hf]; exact (List.getElem?_eq_some_iff.1 hv).1
      have hd := Nat.div_add_mod j size
      have hmod : j % size < size := Nat.mod_lt _ hsz
      have hdiv : j / size < l.length := (Nat.div_lt_iff_lt_mul hsz).2 hj
      have e : j = j / size * size + j % size := by rw [Nat.mul_comm]; omega
      rw [e, flat_get f size hf l _ _ hdiv hmod] at hv
      have h4 := (hp (j / size) hdiv).1 (j % size) hmod
      rw [add_zero_addr, add_zero_addr, hv, Nat.add_assoc, ← e] at h4
      exact h4
    · obtain ⟨i, hi', rfl⟩ := List.getElem_of_mem hy
      exact (hp i hi').2

theorem trodAll_below {ts : List TypeId} {W W' : World} (hl : laidOutB P = true) (hr : ts.all (fun t => P.readableRec t && decide (t < P.types.size)) = true) (hb : Below W.heap.size W W') :
    ∀ {vs : List Value} {ds : List (DataW H)} {ps : List MemPlace}, DataW.TrodAll enc P W 0 (fun _ => true) true ts vs ds ps → (∀ x ∈ ps, x.block < W.heap.size) →
      DataW.TrodAll enc P W' 0 (fun b => decide (b < W.heap.size)) true ts vs ds ps := by
  induction ts with
  | nil =>
    intro vs ds ps h _
    obtain ⟨rfl, rfl, rfl⟩ := trodAll_nil h
    exact trodAll_mk0
  | cons t ts ih =>
    intro vs ds ps h hlt
    obtain ⟨v, vs', d, ds', p, q, rfl, rfl, rfl, h0, r0⟩ := trodAll_cons h
    simp only [List.all_cons, Bool.and_eq_true, decide_eq_true_eq] at hr
    exact trodAll_cons_mk (Below.trod hl hr.1.1 hr.1.2 h0 hb (fun x hx => hlt x (by simp [hx]))) (ih hr.2 r0 (fun x hx => hlt x (by simp [hx])))

/-- The close of every law. -/
theorem law_post {f : Func} {s : ChangeSpec} {W W' : World} {args : Array Value} {ds gs : List (DataW H)} {before : List MemPlace} {tb : TypeId}
    (hl : laidOutB P = true) (hr : f.params.toList.all (fun t => P.readableRec t && decide (t < P.types.size)) = true) (hv : s.vars = []) (hrt : f.resultTypes = #[tb]) (htb : P.underlying tb = some .bool)
    (hW : DataW.Whole enc P f.params.toList s.vars false W args.toList ds gs before)
    (hres : (s.fn H ds).results = [.lit (.bool true)]) (hargs : (s.fn H ds).args = ds) (hvs : (s.fn H ds).vars = []) (hb : Below W.heap.size W W') :
    s.post enc P f false true false false W args (.bool true) W' := by
  have hlt := hW.lt
  have hW' := hW
  obtain ⟨p, q, hA, hV, rfl, hfz, hnd⟩ := hW
  rw [hv] at hV
  obtain ⟨rfl, rfl⟩ := trodVars_none hV
  refine ⟨ds, [], p ++ [], [], p, [], hW', ?_, ?_, ?_, hb.frame _, fun h => by cases h⟩
  · rw [hrt, List.append_nil, hres]
    exact trodAll_cons_mk (shut_bool htb _) trodAll_mk0
  · rw [List.append_nil, hargs]
    exact trodAll_below hl hr hb hA (fun x hx => hlt x (by simp [hx]))
  · rw [hv, List.append_nil, hvs]
    exact rfl
end

end Go.Proofs.YtidhlfcmjpnhgaaGreatDoor

/- More words for memory: a slice's tail, a row that is made. -/
namespace Go.Proofs.YtidhlfcmjpnhgaaGreatDoor
open Go.RowKit

theorem add_addr (b off n : Nat) : (⟨b, off, none⟩ : Addr).add n = ⟨b, off + n, none⟩ := add_zero_addr b off n
theorem Sl.cut {w : World} {size n cap : Nat} {A : Option Addr} {xs : List Value} (h : Sl w size A n cap xs) {k : Nat} (hk : k ≤ n) :
    Sl w size (if cap = k then A else A.map (·.add (k * size))) (n - k) (cap - k) (xs.drop (k * size)) := by
  refine ⟨by rw [List.length_drop, h.len, Nat.sub_mul], by have := h.le; omega, by have := h.max; omega, fun e => ?_, fun hn => ?_⟩
  · have := h.le
    split at e
    · omega
    · cases A with
      | none => have := h.nil rfl; omega
      | some a => cases e
  · obtain ⟨b, off, rfl, hb, hc⟩ := h.cells (by omega)
    have := h.le
    rw [if_neg (by omega)]
    refine ⟨b, off + k * size, by simp [add_addr], hb, fun j u hu => ?_⟩
    rw [Nat.add_assoc]
    exact hc _ u (by rw [← hu, List.getElem?_drop])
theorem run_cut {P : Program} {t e : TypeId} {size bytes : Nat} (hE : ElemT P t e size bytes) (A : Option Addr) {n cap : Nat} (k : Nat) (hk : k ≤ n) (W : World) :
    (Instr.slice t (.slice A n cap) (some (.int .i64 k)) none none).run P W = .ok (.slice (if cap = k then A else A.map (·.add (k * size))) (n - k) (cap - k)) W := by
  obtain ⟨ht, _, i, z, hi, _, hsize, _, _⟩ := hE
  have he : P.elem t = e := by simp [Program.elem, ht]
  have ht' : P.underlying t = some (.slice (P.elem t)) := by rw [he]; exact ht
  rw [run_slice_l W t A n cap ht' .i64 k (by omega) (by omega), he]
  simp [sizeOf, typeInfo, hi, sliced, hsize]
theorem run_mk {P : Program} {t e : TypeId} {size bytes : Nat} (hE : ElemT P t e size bytes) (n : Nat) (c : Int) (hc : c = n) (hb : bytes * n ≤ 281474976710656) (h63 : n ≤ maxLen) :
    ∃ cs : Array Value, cs.size = n * size ∧ ∀ W : World, (Instr.makeSlice t (.int .i64 0) (.int .i64 c)).run P W = .ok (.slice (some ⟨W.heap.size, 0, none⟩) 0 n) (W.alloc (.cells cs e)) := by
  obtain ⟨ht, _, i, z, hi, hz, hsize, hby, _⟩ := hE
  subst hc
  refine ⟨madeCells z.cells (n * size), size_madeCells _ _, fun W => ?_⟩
  have hb' : (i.bytes : Int) * (n : Int) ≤ 281474976710656 := by
    rw [hby]
    have h : ((bytes * n : Nat) : Int) ≤ 281474976710656 := by omega
    rwa [Int.natCast_mul] at h
  have hr := run_make (P := P) W t e i z ht hi hz .i64 .i64 0 n (Int.le_refl _) (by omega) hb' (by unfold maxLen at h63; omega)
  simp only [Int.toNat_zero, Int.toNat_natCast, hsize] at hr
  exact hr
end Go.Proofs.YtidhlfcmjpnhgaaGreatDoor

/- A store of a whole box. -/
namespace Go.Proofs.YtidhlfcmjpnhgaaGreatDoor
open Go.RowKit

theorem setCells_fr (g : Nat) : ∀ (vs : List Value) (o : Nat) (w : World), Fr (Only g) w (w.setCells g o vs)
  | [], _, w => Fr.refl _ w
  | v :: r, o, w => (((Fr.refl (Only g) w).setCell (p := ⟨g, o, none⟩) (fun _ => rfl) v)).call (setCells_fr g r (o + 1) _) (fun _ h _ => h)
def setArr (F : Array Value) : Nat → List Value → Array Value
  | _, [] => F
  | s, v :: r => setArr (F.setIfInBounds s v) (s + 1) r
theorem setArr_size : ∀ (vs : List Value) (s : Nat) (F : Array Value), (setArr F s vs).size = F.size
  | [], _, _ => rfl
  | v :: r, s, F => by rw [setArr, setArr_size r]; simp
theorem setArr_get : ∀ (vs : List Value) (s : Nat) (F : Array Value) (t : Nat), (setArr F s vs)[t]? = if s ≤ t ∧ t < s + vs.length ∧ t < F.size then vs[t - s]? else F[t]?
  | [], s, F, t => by rw [if_neg (by simp; omega)]; rfl
  | v :: r, s, F, t => by
    rw [setArr, setArr_get r]
    simp only [Array.size_setIfInBounds, Array.getElem?_setIfInBounds, List.length_cons]
    by_cases h1 : t = s
    · subst h1
      rw [if_neg (by omega), if_pos rfl]
      by_cases h2 : t < F.size
      · rw [if_pos h2, if_pos (by omega), Nat.sub_self]; rfl
      · rw [if_neg h2, if_neg (by omega), Array.getElem?_eq_none (by omega)]
    · by_cases h3 : s + 1 ≤ t ∧ t < s + 1 + r.length ∧ t < F.size
      · rw [if_pos h3, if_pos (by omega), show t - s = t - (s + 1) + 1 by omega, List.getElem?_cons_succ]
      · rw [if_neg h3, if_neg (fun e => h1 e.symm), if_neg (by omega)]
theorem Blk.putCells {g t : Nat} : ∀ (vs : List Value) (o : Nat) {w : World} {arr : Array Value}, Blk w g t arr → Blk (w.setCells g o vs) g t (setArr arr o vs)
  | [], _, _, _, h => h
  | v :: r, o, _, _, h => Blk.putCells r (o + 1) (h.set o v)
theorem Blk.setAll {g t : Nat} {w : World} {arr : Array Value} (h : Blk w g t arr) (vs : Array Value) (hs : vs.size = arr.size) : Blk (w.setCells g 0 vs.toList) g t vs := by
  have := h.putCells vs.toList 0
  have e : setArr arr 0 vs.toList = vs := by
    apply Array.ext_getElem?
    intro i
    rw [setArr_get]
    by_cases hi : i < vs.size
    · rw [if_pos (by simp; omega), Nat.sub_zero, Array.getElem?_toList]
    · rw [if_neg (by simp; omega), Array.getElem?_eq_none (by omega), Array.getElem?_eq_none (by omega)]
  rwa [e] at this
section
variable {P : Program} {ops : Array Oper} {rest : List Oper} {o : Oper} {a : Act} {w : World} {Q : Exit → Act → World → Prop}
theorem wp_stBox {K : Act → World → Prop} {ty : TypeId} {x y : Operand} (ho : o.op = .store ty x y) {g t : Nat} {arr vs : Array Value} (hx : a.eval x = .pointer (some ⟨g, 0, none⟩)) (hy : a.eval y = .agg vs)
    (hi : (P.info? ty).map (·.size) = some vs.size) (h1 : vs.toList.all (·.oneCell') = true) (hB : Blk w g t arr) (hs : vs.size = arr.size)
    (h : ∀ w', Blk w' g t vs → Fr (Only g) w w' → K (a.put o.dst undef) w') : o.wp P a w K Q :=
  wp_store_mid ty x y ho g 0 vs hx hy (fun j hj => ⟨by rw [Nat.zero_add, hB.cell, Array.getElem?_eq_getElem (by omega)]; rfl, hB.frozen _⟩) hi (by rw [← Array.all_toList]; exact h1) (h _ (hB.setAll vs hs) (setCells_fr g _ _ _))
/-- A whole box is written. -/
theorem wpList_stBox (hgd : o.guard = none) {ty : TypeId} {x y : Operand} (ho : o.op = .store ty x y) {g t : Nat} {arr vs : Array Value} (hx : a.eval x = .pointer (some ⟨g, 0, none⟩)) (hy : a.eval y = .agg vs)
    (hi : (P.info? ty).map (·.size) = some vs.size) (h1 : vs.toList.all (·.oneCell') = true) (hB : Blk w g t arr) (hs : vs.size = arr.size)
    (h : ∀ w', Blk w' g t vs → Fr (Only g) w w' → wpList P ops Q rest (a.put o.dst undef) w') : wpList P ops Q (o :: rest) a w :=
  wpList_store_mid hgd ty x y ho g 0 vs hx hy (fun j hj => ⟨by rw [Nat.zero_add, hB.cell, Array.getElem?_eq_getElem (by omega)]; rfl, hB.frozen _⟩) hi (by rw [← Array.all_toList]; exact h1) (h _ (hB.setAll vs hs) (setCells_fr g _ _ _))
end
end Go.Proofs.YtidhlfcmjpnhgaaGreatDoor

/- A whole box is read, or handed out. -/
namespace Go.Proofs.YtidhlfcmjpnhgaaGreatDoor
open Go.RowKit

section
variable {P : Program} {ops : Array Oper} {rest : List Oper} {o : Oper} {a : Act} {w : World} {Q : Exit → Act → World → Prop}
/-- A whole box is read. -/
theorem wpList_ldBox (hgd : o.guard = none) {ty : TypeId} {x : Operand} (ho : o.op = .load ty x) {g t : Nat} {arr : Array Value} (hx : a.eval x = .pointer (some ⟨g, 0, none⟩))
    (hu : ∃ d, (P.underlying ty = some d) ∧ d.isRow = true) (hi : (P.info? ty).map (·.size) = some arr.size) (hB : Blk w g t arr)
    (h : wpList P ops Q rest (a.put o.dst (.agg arr)) w) : wpList P ops Q (o :: rest) a w := by
  obtain ⟨d, h1, h2⟩ := hu
  exact wpList_load_row hgd ty x ho g hx t arr (0, 0) d hB h1 (by cases d <;> simp_all) hi h
theorem wp_ldBox {K : Act → World → Prop} {ty : TypeId} {x : Operand} (ho : o.op = .load ty x) {g t : Nat} {arr : Array Value} (hx : a.eval x = .pointer (some ⟨g, 0, none⟩))
    (hu : ∃ d, (P.underlying ty = some d) ∧ d.isRow = true) (hi : (P.info? ty).map (·.size) = some arr.size) (hB : Blk w g t arr)
    (h : K (a.put o.dst (.agg arr)) w) : o.wp P a w K Q := by
  obtain ⟨d, h1, h2⟩ := hu
  exact wp_load_row ty x ho g hx t arr (0, 0) d hB h1 (by cases d <;> simp_all) hi h
theorem run_ldBox {ty : TypeId} {g t : Nat} {arr : Array Value} (hu : ∃ d, (P.underlying ty = some d) ∧ d.isRow = true) (hi : (P.info? ty).map (·.size) = some arr.size) (hB : Blk w g t arr) :
    (loadVar ty ⟨g, 0, none⟩).run P w = .ok (.agg arr) w := by
  obtain ⟨d, h1, h2⟩ := hu
  exact run_loadVar_row w g t ty arr (0, 0) d hB h1 (by cases d <;> simp_all) hi
/-- A box alone is returned. -/
theorem ret_box0 {fn : Func} {p : Tmp} {ty : TypeId} (h : fn.results = #[.cell p ty]) {tmps : Array Value} {g t : Nat} {arr : Array Value} (hp : tmps.getD p undef = .pointer (some ⟨g, 0, none⟩))
    (hu : ∃ d, (P.underlying ty = some d) ∧ d.isRow = true) (hi : (P.info? ty).map (·.size) = some arr.size) (hB : Blk w g t arr) :
    (results fn tmps).run P w = .ok (.agg arr) w := by
  have hp' : tmps[p]?.getD undef = .pointer (some ⟨g, 0, none⟩) := by simpa using hp
  simp [results, h, hp', asAddr, run_ldBox hu hi hB]
/-- A box and what follows it are returned. -/
theorem ret_box1 {fn : Func} {p u : Tmp} {ty : TypeId} (h : fn.results = #[.cell p ty, .tmp u]) {tmps : Array Value} {g t : Nat} {arr : Array Value} (hp : tmps.getD p undef = .pointer (some ⟨g, 0, none⟩))
    (hu : ∃ d, (P.underlying ty = some d) ∧ d.isRow = true) (hi : (P.info? ty).map (·.size) = some arr.size) (hB : Blk w g t arr) :
    (results fn tmps).run P w = .ok (.tuple #[.agg arr, tmps.getD u undef]) w := by
  have hp' : tmps[p]?.getD undef = .pointer (some ⟨g, 0, none⟩) := by simpa using hp
  simp [results, h, hp', asAddr, run_ldBox hu hi hB]
theorem ret_box2 {fn : Func} {p u v : Tmp} {ty : TypeId} (h : fn.results = #[.cell p ty, .tmp u, .tmp v]) {tmps : Array Value} {g t : Nat} {arr : Array Value} (hp : tmps.getD p undef = .pointer (some ⟨g, 0, none⟩))
    (hu : ∃ d, (P.underlying ty = some d) ∧ d.isRow = true) (hi : (P.info? ty).map (·.size) = some arr.size) (hB : Blk w g t arr) :
    (results fn tmps).run P w = .ok (.tuple #[.agg arr, tmps.getD u undef, tmps.getD v undef]) w := by
  have hp' : tmps[p]?.getD undef = .pointer (some ⟨g, 0, none⟩) := by simpa using hp
  simp [results, h, hp', asAddr, run_ldBox hu hi hB]
theorem ret_boxes {fn : Func} {p q u : Tmp} {ty ty2 : TypeId} (h : fn.results = #[.cell p ty, .cell q ty2, .tmp u]) {tmps : Array Value} {g t : Nat} {arr : Array Value} (hp : tmps.getD p undef = .pointer (some ⟨g, 0, none⟩))
    (hu : ∃ d, (P.underlying ty = some d) ∧ d.isRow = true) (hi : (P.info? ty).map (·.size) = some arr.size) (hB : Blk w g t arr)
    {g2 t2 : Nat} {arr2 : Array Value} (hp2 : tmps.getD q undef = .pointer (some ⟨g2, 0, none⟩))
    (hu2 : ∃ d, (P.underlying ty2 = some d) ∧ d.isRow = true) (hi2 : (P.info? ty2).map (·.size) = some arr2.size) (hB2 : Blk w g2 t2 arr2) :
    (results fn tmps).run P w = .ok (.tuple #[.agg arr, .agg arr2, tmps.getD u undef]) w := by
  have hp' : tmps[p]?.getD undef = .pointer (some ⟨g, 0, none⟩) := by simpa using hp
  have hp2' : tmps[q]?.getD undef = .pointer (some ⟨g2, 0, none⟩) := by simpa using hp2
  simp [results, h, hp', hp2', asAddr, run_ldBox hu hi hB, run_ldBox hu2 hi2 hB2]
end
theorem yields_ldBox {P : Program} {ops : Array Oper} {S : World → Prop} {op : Oper} {a : Act} (hw : Region.wanted op (yielded ops a.tmps) = true) {ty : TypeId} {x : Operand} (ho : op.op = .load ty x)
    {g t : Nat} {arr : Array Value} (hx : a.eval x = .pointer (some ⟨g, 0, none⟩)) (hS : ∀ w, S w → Blk w g t arr) (hu : ∃ d, (P.underlying ty = some d) ∧ d.isRow = true) (hi : (P.info? ty).map (·.size) = some arr.size) : YieldsIf P ops S op (.agg arr) a :=
  .inl ⟨hw, fun w hw' => by
    unfold execOp
    simp only [ho, hx, Instr.loadAt, Instr.sureAddr, Sem.run_bind, Sem.run_pure, Result.andThen_ok, run_ldBox hu hi (hS w hw')]⟩
theorem takeH {P : Program} {md : _} {ops : Array Oper} {Q : Exit → Act → World → Prop} {S : World → Prop} {i : Nat} {oi : Oper} {v : Value} {t : Tmp} {fuel : Nat} {listed : Array Bool} {a : Act} {w : World} (hi : ops[i]? = some oi) (hd : oi.dst = some t)
    (hs : Region.noSelect ops = true) (hf : Region.free md ops listed i = true) (hr : (Region.ready md ops listed).contains i = true)
    (hQ : ∀ c a w, Q (.panic c) (a.put oi.dst v) w → Q (.panic c) a w) (hy : YieldsIf P ops S oi v a) (hS : S w)
    (h : wpAnyH P md ops Q S fuel (listed.setIfInBounds i true) ⟨a.tmps.setIfInBounds t v, a.defers⟩ w) : wpAnyH P md ops Q S (fuel + 1) listed a w :=
  wpAnyH_take hi hs hf hr hQ hy hS (by unfold Act.put; rw [hd]; exact h)
theorem wp_stBoxN {P : Program} {o : Oper} {a : Act} {w : World} {Q : Exit → Act → World → Prop} {K : Act → World → Prop} {ty : TypeId} {x y : Operand} (ho : o.op = .store ty x y) (hd : o.dst = none) {g t : Nat} {arr vs : Array Value} (hx : a.eval x = .pointer (some ⟨g, 0, none⟩)) (hy : a.eval y = .agg vs)
    (hi : (P.info? ty).map (·.size) = some vs.size) (h1 : vs.toList.all (·.oneCell') = true) (hB : Blk w g t arr) (hs : vs.size = arr.size)
    (h : ∀ w', Blk w' g t vs → Fr (Only g) w w' → K a w') : o.wp P a w K Q :=
  wp_stBox ho hx hy hi h1 hB hs fun w' h1 h2 => by rw [hd]; exact h w' h1 h2
end Go.Proofs.YtidhlfcmjpnhgaaGreatDoor
