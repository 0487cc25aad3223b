/- Words for memory that all my walks use: frames, whole blocks, slices that read as lists, appends. -/
import Derived.Test.YtoegdmpmagbaiaaDoorRows
import Derived.WalkKit
import Derived.Handy
import Derived.WalkLawsBesides
import Derived.WalkSpells
import Derived.BigQuiet
import Derived.Lib.Hide
import Derived.Outline
import Derived.Deep.AppendLies
import Derived.Deep.Draws
namespace Go.Proofs.YtoegdmpmagbaiaaDoor
open Go.RowKit

theorem ret1i {k : IntKind} {a b : Int} (h : a = b) : Ending.returned (.int k a) = .returned (.int k b) := by rw [h]
theorem ret1b {a b : Bool} (h : a = b) : Ending.returned (.bool a) = .returned (.bool b) := by rw [h]
theorem ret1 {a b : Value} (h : a = b) : Ending.returned a = .returned b := by rw [h]
theorem ret2 {a b c d : Value} (h : a = c) (h' : b = d) : Ending.returned (.tuple #[a, b]) = .returned (.tuple #[c, d]) := by rw [h, h']
theorem ret3 {a b c d e f : Value} (h : a = d) (h' : b = e) (h2 : c = f) : Ending.returned (.tuple #[a, b, c]) = .returned (.tuple #[d, e, f]) := by rw [h, h', h2]
theorem vint {k : IntKind} {a b : Int} (h : a = b) : Value.int k a = .int k b := by rw [h]
theorem vbool {a b : Bool} (h : a = b) : Value.bool a = .bool b := by rw [h]

def I64 (a : Int) : Prop := -9223372036854775808 ≤ a ∧ a ≤ 9223372036854775807

/-- w' is w, but for the blocks of S and for new ones. -/
structure Fr (S : Nat → Prop) (w w' : World) : Prop where
  os : w'.os = w.os
  tape : w'.tape = w.tape
  output : w'.output = w.output
  size : w.heap.size ≤ w'.heap.size
  block : ∀ k, k < w.heap.size → ¬ S k → w'.heap[k]? = w.heap[k]?

def Nob : Nat → Prop := fun _ => False
def Only (b : Nat) : Nat → Prop := fun k => k = b

section
variable {S S' : Nat → Prop} {a w w' : World}
theorem Fr.refl (S : Nat → Prop) (w : World) : Fr S w w := ⟨rfl, rfl, rfl, Nat.le_refl _, fun _ _ _ => rfl⟩
theorem Fr.trans (h : Fr S a w) (k : Fr S' w w') (hs : ∀ i, i < a.heap.size → S' i → S i) : Fr S a w' :=
  ⟨k.os.trans h.os, k.tape.trans h.tape, k.output.trans h.output, Nat.le_trans h.size k.size, fun i hi hn =>
    (k.block i (Nat.lt_of_lt_of_le hi h.size) (fun e => hn (hs i hi e))).trans (h.block i hi hn)⟩
theorem Fr.mono (h : Fr S a w) (hs : ∀ i, i < a.heap.size → S i → S' i) : Fr S' a w :=
  ⟨h.os, h.tape, h.output, h.size, fun i hi hn => h.block i hi fun e => hn (hs i hi e)⟩
theorem Fr.drew (h : Fr S a w) : Fr S a w.drew := ⟨h.os, h.tape, h.output, h.size, h.block⟩
theorem Fr.drewN (h : Fr S a w) (n : Nat) : Fr S a (w.drewN n) := ⟨h.os, h.tape, h.output, h.size, h.block⟩
theorem Fr.alloc (h : Fr S a w) (o : Obj) : Fr S a (w.alloc o) :=
  ⟨h.os, h.tape, h.output, by simp; have := h.size; omega, fun i hi hn => (Below.heap_alloc w o i (by have := h.size; omega)).trans (h.block i hi hn)⟩
theorem Fr.setCell (h : Fr S a w) {p : Addr} (hp : p.block < a.heap.size → S p.block) (v : Value) : Fr S a (w.setCell p v) :=
  ⟨h.os, h.tape, h.output, by simp; exact h.size, fun i hi hn => (Below.heap_setCell w p v i (fun e => hn (by subst e; exact hp hi))).trans (h.block i hi hn)⟩
theorem Fr.grown (h : Fr S a w) {row : Option Nat} (hg : w.grownBy w' row) (hr : ∀ k, row = some k → k < a.heap.size → S k) : Fr S a w' :=
  ⟨hg.os.trans h.os, hg.tape.trans h.tape, hg.output.trans h.output, Nat.le_trans h.size hg.size, fun i hi hn =>
    (hg.block i (Nat.lt_of_lt_of_le hi h.size) (fun e => hn (hr i e.symm hi))).trans (h.block i hi hn)⟩
theorem Fr.of_below (h : Below w.heap.size w w') : Fr S w w' := ⟨h.os, h.tape, h.output, h.size, fun k hk _ => h.block k hk⟩
theorem Fr.below (h : Fr Nob w w') : Below w.heap.size w w' := ⟨h.os, h.tape, h.output, h.size, fun k hk => h.block k hk (fun e => e)⟩
theorem Fr.cell (h : Fr S w w') {p : Addr} {v : Value} (hc : w.cell? p = some v) (hp : ¬ S p.block) : w'.cell? p = some v :=
  (World.cell?_of_block (h.block p.block (World.block_lt_of_cell? w p hc) hp)).trans hc
theorem Fr.call (h : Fr S a w) (k : Fr S' w w') (hs : ∀ i, S' i → i < a.heap.size → S i) : Fr S a w' := h.trans k fun i hi e => hs i e hi
end

/-- Block g is just the cells cs of element type t, none frozen. -/
def Blk (w : World) (g : Nat) (t : TypeId) (cs : Array Value) : Prop := w.heap[g]? = some (.cells cs t (0, 0))
section
variable {S : Nat → Prop} {w w' : World} {g : Nat} {t : TypeId} {cs : Array Value}
theorem Blk.lt (h : Blk w g t cs) : g < w.heap.size := by
  rcases Nat.lt_or_ge g w.heap.size with hlt | hge
  · exact hlt
  · unfold Blk at h; rw [Array.getElem?_eq_none hge] at h; cases h
theorem Blk.cell (h : Blk w g t cs) (i : Nat) : w.cell? ⟨g, i, none⟩ = cs[i]? := cell_of_row w g i cs t (0, 0) h
theorem Blk.frozen (h : Blk w g t cs) (i : Nat) : w.frozen? ⟨g, i, none⟩ = false := by
  unfold Blk at h
  simp [World.frozen?, h]
theorem Blk.new (w : World) (t : TypeId) (cs : Array Value) : Blk (w.alloc (.cells cs t)) w.heap.size t cs := heap_alloc_new w _
theorem Blk.new_eq {w : World} {g : Nat} {t : TypeId} {cs : Array Value} (h : g = w.heap.size) : Blk (w.alloc (.cells cs t)) g t cs := by subst h; exact Blk.new _ _ _
theorem Blk.drew (h : Blk w g t cs) : Blk w.drew g t cs := h
theorem Blk.drewN (h : Blk w g t cs) (n : Nat) : Blk (w.drewN n) g t cs := h
theorem Blk.alloc (h : Blk w g t cs) (o : Obj) : Blk (w.alloc o) g t cs := (Below.heap_alloc w o g h.lt).trans h
theorem Blk.set (h : Blk w g t cs) (i : Nat) (u : Value) : Blk (w.setCell ⟨g, i, none⟩ u) g t (cs.setIfInBounds i u) := by
  unfold Blk at h ⊢
  simp [World.setCell, Array.getElem?_modify, h]
theorem Blk.far (h : Blk w g t cs) {p : Addr} (hp : g ≠ p.block) (u : Value) : Blk (w.setCell p u) g t cs := (Below.heap_setCell w p u g hp).trans h
theorem Blk.fr (h : Blk w g t cs) (hb : Fr S w w') (hg : ¬ S g) : Blk w' g t cs := (hb.block g h.lt hg).trans h
theorem Blk.grown {row : Option Nat} (h : Blk w g t cs) (hb : w.grownBy w' row) (hg : row ≠ some g) : Blk w' g t cs := (hb.block g h.lt (fun e => hg e.symm)).trans h
end

/-- The slice '.slice A n cap' reads as the cells xs (size cells an element). -/
structure Sl (w : World) (size : Nat) (A : Option Addr) (n cap : Nat) (xs : List Value) : Prop where
  len : xs.length = n * size
  le : n ≤ cap
  max : cap ≤ maxLen
  nil : A = none → cap = 0
  cells : 0 < n → ∃ b off, A = some ⟨b, off, none⟩ ∧ b < w.heap.size ∧ ∀ j u, xs[j]? = some u → w.cell? ⟨b, off + j, none⟩ = some u

section
variable {S : Nat → Prop} {w w' : World} {size n cap : Nat} {A : Option Addr} {xs : List Value}
theorem Sl.none_ (w : World) (size : Nat) : Sl w size none 0 0 [] := ⟨by simp, Nat.le_refl _, by simp, fun _ => rfl, fun h => absurd h (by omega)⟩
theorem Sl.keep (h : Sl w size A n cap xs) (hk : ∀ b off, A = some ⟨b, off, none⟩ → 0 < n → b < w.heap.size → w'.heap[b]? = w.heap[b]?) : Sl w' size A n cap xs :=
  ⟨h.len, h.le, h.max, h.nil, fun hn => by
    obtain ⟨b, off, e, hb, hc⟩ := h.cells hn
    have hk' := hk b off e hn hb
    refine ⟨b, off, e, ?_, fun j u hu => (World.cell?_of_block (w := w) (w' := w') (a := ⟨b, off + j, none⟩) hk').trans (hc j u hu)⟩
    rcases Nat.lt_or_ge b w'.heap.size with hlt | hge
    · exact hlt
    · rw [Array.getElem?_eq_none hge, Array.getElem?_eq_getElem hb] at hk'; cases hk'⟩
theorem Sl.fr (h : Sl w size A n cap xs) (hb : Fr S w w') (hs : ∀ b off, A = some ⟨b, off, none⟩ → 0 < n → ¬ S b) : Sl w' size A n cap xs :=
  h.keep fun b off e hn hlt => hb.block b hlt (hs b off e hn)
theorem Sl.pure (h : Sl w size A n cap xs) (hb : Fr Nob w w') : Sl w' size A n cap xs := h.fr hb fun _ _ _ _ e => e
theorem Sl.alloc (h : Sl w size A n cap xs) (o : Obj) : Sl (w.alloc o) size A n cap xs := h.keep fun b _ _ _ hlt => Below.heap_alloc w o b hlt
theorem Sl.drew (h : Sl w size A n cap xs) : Sl w.drew size A n cap xs := h.keep fun _ _ _ _ _ => rfl
theorem Sl.drewN (h : Sl w size A n cap xs) (k : Nat) : Sl (w.drewN k) size A n cap xs := h.keep fun _ _ _ _ _ => rfl
theorem Sl.set (h : Sl w size A n cap xs) {p : Addr} (hp : ∀ b off, A = some ⟨b, off, none⟩ → b ≠ p.block) (u : Value) : Sl (w.setCell p u) size A n cap xs :=
  h.keep fun b off e _ _ => Below.heap_setCell w p u b (hp b off e)
theorem Sl.of_own {base : Nat} {e : TypeId} (h : w.ownsRow base e size (.slice A n cap) n xs) : Sl w size A n cap xs := by
  refine ⟨h.1, ?_, ?_, ?_, fun hn => ?_⟩
  · rcases h.2 with ⟨h1, h2⟩ | ⟨g, c, cur, h1, _, _, h2, _⟩
    · simp only [Value.slice.injEq] at h1; omega
    · simp only [Value.slice.injEq] at h1; omega
  · rcases h.2 with ⟨h1, h2⟩ | ⟨g, c, cur, h1, _, _, h2, h3, _⟩
    · simp only [Value.slice.injEq] at h1; omega
    · simp only [Value.slice.injEq] at h1; omega
  · rcases h.2 with ⟨h1, h2⟩ | ⟨g, c, cur, h1, _, _, h2, h3, _⟩
    · simp only [Value.slice.injEq] at h1; exact fun _ => h1.2.2
    · simp only [Value.slice.injEq] at h1; intro e; rw [e] at h1; exact absurd h1.1 (by simp)
  · obtain ⟨g, c, hv, _, hlt⟩ := h.form hn
    simp only [Value.slice.injEq] at hv
    refine ⟨g, 0, hv.1, hlt, fun j u hu => ?_⟩
    have := h.cells (g := g) (by rw [hv.1]; rfl) j u hu
    rw [Nat.zero_add]
    simpa [Addr.add] using (by unfold Addr.add at this; split at this <;> simp_all : w.cell? ⟨g, j, none⟩ = some u)
end

theorem Sl.at_ {w : World} {n cap : Nat} {A : Option Addr} {xs : List Value} {k : Nat} (h : Sl w 1 A n cap xs) (hk : k < n) :
    ∃ b off u, A = some ⟨b, off, none⟩ ∧ b < w.heap.size ∧ xs[k]? = some u ∧ w.cell? ⟨b, off + k, none⟩ = some u := by
  obtain ⟨b, off, e, hb, hc⟩ := h.cells (by omega)
  have hl : k < xs.length := by rw [h.len]; omega
  exact ⟨b, off, xs[k], e, hb, List.getElem?_eq_getElem hl, hc k _ (List.getElem?_eq_getElem hl)⟩

/-- The slice's block is none of lo .. hi - 1 (a caller's own boxes). -/
def Off (A : Option Addr) (lo hi : Nat) : Prop := ∀ g off, A = some ⟨g, off, none⟩ → g < lo ∨ hi ≤ g
theorem Off.none_ (lo hi : Nat) : Off none lo hi := fun _ _ e => by cases e
theorem Off.of_lt {b off lo hi : Nat} (h : b < lo) : Off (some ⟨b, off, none⟩) lo hi := fun g o e => by cases e; exact .inl h
theorem Off.of_ge {b off lo hi : Nat} (h : hi ≤ b) : Off (some ⟨b, off, none⟩) lo hi := fun g o e => by cases e; exact .inr h
theorem Off.ne {A : Option Addr} {lo hi g : Nat} (h : Off A lo hi) (h1 : lo ≤ g) (h2 : g < hi) : ∀ off, A ≠ some ⟨g, off, none⟩ := fun off e => by
  rcases h g off e with h | h <;> omega
/-- Where an appended slice lies: where the elder one lay, or in block g. -/
def Lies (A' A : Option Addr) (g : Nat) : Prop := A'.map (·.block) = A.map (·.block) ∨ A'.map (·.block) = some g
/-- What the walk must know of a slice type and its elements. -/
def ElemT (P : Program) (t e : TypeId) (size bytes : Nat) : Prop :=
  P.underlying t = some (.slice e) ∧ 0 < size ∧ ∃ i z, P.info? e = some i ∧ i.zero = some z ∧ i.size = size ∧ i.bytes = bytes ∧ z.cells.size = size
theorem ElemT.mk {P : Program} {t e : TypeId} {size bytes : Nat} {z : Value} (ht : P.underlying t = some (.slice e)) (h : (P.info? e).map (fun i => (i.zero, i.size, i.bytes)) = some (some z, size, bytes))
    (hz : z.cells.size = size) (hs : 0 < size) : ElemT P t e size bytes := by
  obtain ⟨i, h1, h2, h3, h4⟩ := info_parts h
  exact ⟨ht, hs, i, z, h1, h2, h3, h4, hz⟩

theorem add_zero_addr (b off j : Nat) : (⟨b, off, none⟩ : Addr).add j = ⟨b, off + j, none⟩ := by
  unfold Addr.add; split <;> simp_all

section
variable {P : Program} {w : World} {ops : Array Oper} {rest : List Oper} {o : Oper} {a : Act} {Q : Exit → Act → World → Prop}
theorem wpList_app (hgd : o.guard = none) (s x : Operand) (t : TypeId)
    (ho : o.op = .call { callee := .builtin .append, args := #[s, x], argTypes := #[t, t] })
    {e : TypeId} {size bytes : Nat} (hE : ElemT P t e size bytes) {base : Nat}
    {A : Option Addr} {n cap : Nat} {xs : List Value} (hs : a.eval s = .slice A n cap) (hown : w.ownsRow base e size (.slice A n cap) n xs)
    {A2 : Option Addr} {m c : Nat} {news : List Value} (hx : a.eval x = .slice A2 m c) (hsrc : Sl w size A2 m c news) (h1 : ∀ u ∈ news, u.oneCell' = true)
    (h63 : n + m ≤ maxLen) (hbytes : (n + m) * bytes ≤ 140737488355328) (hbase : base ≤ w.heap.size)
    (h : ∀ A' cap' w', w'.ownsRow base e size (.slice A' (n + m) cap') (n + m) (xs ++ news) → w.grownBy w' (A.map (·.block)) →
      Lies A' A w.heap.size → wpList P ops Q rest (a.put o.dst (.slice A' (n + m) cap')) w') : wpList P ops Q (o :: rest) a w := by
  obtain ⟨ht, hsz, i, z, hi, hz, hsize, hby, hzs⟩ := hE
  have hob : (Value.slice A n cap).ownBlock = A.map (·.block) := by cases A <;> rfl
  rcases Nat.eq_zero_or_pos m with hm | hm
  · subst hm
    have hn0 : news = [] := List.eq_nil_of_length_eq_zero (by rw [hsrc.len]; omega)
    subst hn0
    cases A2 with
    | none =>
      have hc := hsrc.nil rfl
      subst hc
      refine wpList_plain hgd fun K hK => ?_
      have hrun := run_append_owned_none (P := P) (w := w) base t o.type e i size ht hi _ n xs hown
      unfold Oper.wp
      simp [execOp, ho, resolve, invoke, builtin, hs, hx, hrun, Result.andThen]
      exact hK _ _ (by simpa using h A cap w (by simpa using hown) ⟨rfl, rfl, rfl, Nat.le_refl _, fun _ _ _ => rfl⟩ (.inl rfl))
    | some ad =>
      obtain ⟨v', w', hr, h2, h3, h4, h5⟩ := run_append_own_at (P := P) w base t o.type e i z size bytes ht hi hz hsize hby hzs hsz _ n xs hown ad 0 c [] (by simp) (by simp) (by simp) h63 hbytes hbase
      refine wpList_plain hgd fun K hK => ?_
      unfold Oper.wp execOp
      simp only [ho, resolve, invoke, builtin, Sem.run_bind, Sem.run_pure, Result.andThen_ok, List.map_toArray, List.map_cons, List.map_nil, hs, hx, hr]
      have hv' : ∃ A' cap', v' = .slice A' (n + 0) cap' := by
        rcases h2.2 with ⟨h6, h7⟩ | ⟨g, c', cur, h6, _⟩
        · exact ⟨none, 0, by rw [h6, h7]⟩
        · exact ⟨_, _, h6⟩
      obtain ⟨A', cap', rfl⟩ := hv'
      have hob' : (Value.slice A' (n + 0) cap').ownBlock = A'.map (·.block) := by cases A' <;> rfl
      rw [hob] at h3 h5
      rw [hob'] at h5
      exact hK _ _ (h A' cap' w' h2 h3 h5)
  · obtain ⟨b, off, rfl, hb, hc⟩ := hsrc.cells hm
    obtain ⟨v', w', hr, h2, h3, h4, h5⟩ := run_append_own_at (P := P) w base t o.type e i z size bytes ht hi hz hsize hby hzs hsz _ n xs hown ⟨b, off, none⟩ m c news hsrc.len (fun j u hu => by rw [add_zero_addr]; exact hc j u hu) h1 h63 hbytes hbase
    refine wpList_plain hgd fun K hK => ?_
    unfold Oper.wp execOp
    simp only [ho, resolve, invoke, builtin, Sem.run_bind, Sem.run_pure, Result.andThen_ok, List.map_toArray, List.map_cons, List.map_nil, hs, hx, hr]
    obtain ⟨g, cap', rfl, _, _⟩ := h2.form (by omega)
    rw [hob] at h3 h5
    exact hK _ _ (h _ cap' w' h2 h3 h5)
end

theorem own_fr {S : Nat → Prop} {w w' : World} {base : Nat} {e : TypeId} {size : Nat} {v : Value} {n : Nat} {xs : List Value} (h : w.ownsRow base e size v n xs) (hf : Fr S w w') (hs : ∀ k, v.ownBlock = some k → base ≤ k → k < w.heap.size → ¬ S k) : w'.ownsRow base e size v n xs := by
  refine ⟨h.1, ?_⟩
  rcases h.2 with hn | ⟨g, cap, cur, rfl, hb, hgg, rest⟩
  · exact .inl hn
  · have hlt := (Array.getElem?_eq_some_iff.1 hgg).1
    exact .inr ⟨g, cap, cur, rfl, hb, (hf.block g hlt (hs g rfl hb hlt)).trans hgg, rest⟩

/-- Rows of different element types never share a block: what is appended to the one leaves the other. -/
theorem own_apart {w w' : World} {b1 b2 e1 e2 s1 s2 n1 n2 c1 c2 : Nat} {A1 A2 : Option Addr} {xs ys : List Value} (h : w.ownsRow b1 e1 s1 (.slice A1 n1 c1) n1 xs) (h2 : w.ownsRow b2 e2 s2 (.slice A2 n2 c2) n2 ys)
    (hne : e1 ≠ e2) (hg : w.grownBy w' (A2.map (·.block))) : w'.ownsRow b1 e1 s1 (.slice A1 n1 c1) n1 xs := by
  refine h.kept hg ?_
  rcases h.2 with ⟨h3, _⟩ | ⟨g, cap, cur, h3, _, hh, _⟩
  · left; simp only [Value.slice.injEq] at h3; rw [h3.1]; rfl
  · right
    simp only [Value.slice.injEq] at h3
    rw [h3.1]
    rcases h2.2 with ⟨h4, _⟩ | ⟨g2, cap2, cur2, h4, _, hh2, _⟩
    · simp only [Value.slice.injEq] at h4; rw [h4.1]; simp [Value.ownBlock]
    · simp only [Value.slice.injEq] at h4
      rw [h4.1]
      simp only [Value.ownBlock, Option.map_some, ne_eq, Option.some.injEq]
      rintro rfl
      rw [hh] at hh2
      injection hh2 with hh2
      injection hh2 with _ ht
      exact hne ht
/-- The block of an owned slice is one from the base on. -/
theorem own_base {w : World} {base : Nat} {e : TypeId} {size : Nat} {A : Option Addr} {c n : Nat} {xs : List Value} (h : w.ownsRow base e size (.slice A n c) n xs) : ∀ k, A.map (·.block) = some k → base ≤ k := by
  intro k hk
  have := h.lt k (by cases A <;> simp_all [Value.ownBlock])
  exact this.1
theorem own_addr {w : World} {base : Nat} {e : TypeId} {size : Nat} {A : Option Addr} {c n : Nat} {xs : List Value} (h : w.ownsRow base e size (.slice A n c) n xs) : ∀ g off, A = some ⟨g, off, none⟩ → base ≤ g := by
  intro g off hA
  exact own_base h g (by rw [hA]; rfl)

/-- the cells of a block that was just laid, as a slice over it -/
theorem Sl.new1 {w : World} {g : Nat} {t : TypeId} {cs : Array Value} (h : Blk w g t cs) (size n : Nat) (hn : cs.size = n * size) (hmax : n ≤ maxLen) : Sl w size (some ⟨g, 0, none⟩) n n cs.toList :=
  ⟨by simpa using hn, Nat.le_refl _, hmax, (fun e => by cases e), fun _ => ⟨g, 0, rfl, h.lt, fun j u hu => by rw [Nat.zero_add, h.cell]; simpa using hu⟩⟩

end Go.Proofs.YtoegdmpmagbaiaaDoor
