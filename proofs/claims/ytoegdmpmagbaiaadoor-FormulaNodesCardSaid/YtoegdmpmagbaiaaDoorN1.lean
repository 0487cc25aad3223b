/- Ranges over functions whose rounds may turn blocks of certain types: what is owed. -/
import Derived.Test.YtoegdmpmagbaiaaDoorRange
import Derived.Test.YtoegdmpmagbaiaaDoorFeach
import Derived.Sort.LoopGhostIn
import Derived.Maps.AppendAt
import Derived.Maps.OwnIn
import Derived.RangeFuncBox
namespace Go.Proofs.YtoegdmpmagbaiaaDoor
open Go.RowKit Go.Shelf
attribute [local go_sem] Oper.semAt_some

/-- What a round keeps: all cells but those of the blocks S, told by their type too. -/
def KpT (S : Nat → Nat → Prop) (W W' : World) : Prop := W.heap.size ≤ W'.heap.size ∧ ∀ k cs t f, W.heap[k]? = some (.cells cs t f) → ¬ S k t → W'.heap[k]? = some (.cells cs t f)
theorem KpT.refl (S : Nat → Nat → Prop) (W : World) : KpT S W W := ⟨Nat.le_refl _, fun _ _ _ _ h _ => h⟩
theorem KpT.trans {S : Nat → Nat → Prop} {A B C : World} (h : KpT S A B) (k : KpT S B C) : KpT S A C := ⟨Nat.le_trans h.1 k.1, fun i cs t f hi hn => k.2 i cs t f (h.2 i cs t f hi hn) hn⟩
theorem KpT.put {S : Nat → Nat → Prop} (W : World) (l : Nat) (o o' : Obj) (h : W.heap[l]? = some o) (hc : o.isCells = false) : KpT S W (W.putObj l o') :=
  ⟨by simp, fun _ cs t f hk _ => (World.putObj_heap_other (fun e => by subst e; rw [h] at hk; cases hk; cases hc)).trans hk⟩
theorem KpT.block {S : Nat → Nat → Prop} {w w' : World} (hk : KpT S w w') {b : Nat} (hS : ∀ t, ¬ S b t) {o : Obj} (ho : w.heap[b]? = some o) (hc : o.isCells = true) : w'.heap[b]? = some o := by
  cases o with
  | cells cs t f => exact hk.2 b cs t f ho (hS t)
  | _ => cases hc
theorem KpT.cell {S : Nat → Nat → Prop} {w w' : World} (hk : KpT S w w') {p : Addr} {u : Value} (hu : w.cell? p = some u) (hS : ∀ t, ¬ S p.block t) : w'.cell? p = some u := by
  have hlt := World.block_lt_of_cell? w p hu
  obtain ⟨o, ho⟩ : ∃ o, w.heap[p.block]? = some o := ⟨_, Array.getElem?_eq_getElem hlt⟩
  have hc : o.isCells = true := by
    unfold World.cell? at hu
    simp only [ho] at hu
    cases o <;> simp at hu <;> first | rfl | (split at hu <;> simp at hu)
  exact (World.cell?_of_block ((hk.block hS ho hc).trans ho.symm)).trans hu
theorem KpT.blk {S : Nat → Nat → Prop} {w w' : World} {g : Nat} {t : TypeId} {cs : Array Value} (hk : KpT S w w') (h : Blk w g t cs) (hg : ¬ S g t) : Blk w' g t cs := hk.2 g cs t _ h hg
theorem At.kpT {S : Nat → Nat → Prop} {N : Nat} {w w' : World} (hk : KpT S w w') (hS : ∀ k t, S k t → N ≤ k) : ∀ {f : Fo} {b off : Nat}, f.At N w b off → f.At N w' b off
  | .nil, _, _, _ => trivial
  | .cons _ _ _ ks _, b, off, ⟨h1, h2, h3, h4, h5, h6, h7⟩ =>
    ⟨h1, Nat.lt_of_lt_of_le h2 hk.1, fun j u hu => hk.cell (h3 j u hu) (fun t e => by have := hS b t e; omega), h4, h5, fun bb oo e => At.kpT hk hS (h6 bb oo e), At.kpT hk hS h7⟩
theorem FoSl.kpT {S : Nat → Nat → Prop} {N : Nat} {w w' : World} {A : Option Addr} {c : Nat} {f : Fo} (h : FoSl N w A c f) (hk : KpT S w w') (hS : ∀ k t, S k t → N ≤ k) : FoSl N w' A c f := ⟨h.ok, h.some_, fun bb oo e => At.kpT hk hS (h.at_ bb oo e)⟩
theorem OwnSt.kpT {base : Nat} {w w' : World} {A : Option Addr} {c : Nat} {st : List Ent} {S : Nat → Nat → Prop} (h : OwnSt base w A c st) (hk : KpT S w w') (hS : ∀ k, S k 26 → k < base) : OwnSt base w' A c st := by
  refine ⟨h.1, ?_⟩
  rcases h.2 with h2 | ⟨g, cap, cur, hv, hb, hg, rest⟩
  · exact .inl h2
  · exact .inr ⟨g, cap, cur, hv, hb, hk.2 g _ _ _ hg (fun e => by have := hS g e; omega), rest⟩
/-- J says nothing of what is laid from block B on, but of blocks of nodes. -/
def FarT {β : Type} (B : Nat) (J : β → World → Prop) : Prop := ∀ s W W' row, J s W → W.grownBy W' row → (∀ r, row = some r → B ≤ r ∧ ∀ cs f, W.heap[r]? ≠ some (.cells cs 28 f)) → J s W'
theorem Far.toT {β : Type} {B : Nat} {J : β → World → Prop} (h : Far B J) : FarT B J := fun s W W' row hs hg hr => h s W W' row hs hg (fun r e => (hr r e).1)
theorem OwnSt.ltk {base : Nat} {w : World} {A : Option Addr} {c : Nat} {st : List Ent} (h : OwnSt base w A c st) {k : Nat} (e : A.map (·.block) = some k) : k < w.heap.size := by
  rcases h.2 with ⟨h2, _⟩ | ⟨g, cap, cur, hv, hb, hg, rest⟩
  · simp only [Value.slice.injEq] at h2
    rw [h2.1] at e; cases e
  · simp only [Value.slice.injEq] at hv
    obtain ⟨rfl, _, _⟩ := hv
    simp at e
    subst e
    exact (Array.getElem?_eq_some_iff.1 hg).1
theorem FarT.put {β : Type} {B : Nat} {J : β → World → Prop} (h : FarT B J) {s : β} {W : World} {l : Nat} (o : Obj) (hs : J s W) (hl : B ≤ l) {o0 : Obj} (h0 : W.heap[l]? = some o0) (hc : o0.isCells = false) : J s (W.putObj l o) :=
  h s W _ (some l) hs (grownBy_putObj' W l o) (fun r e => by cases e; exact ⟨hl, fun cs f hh => by rw [h0] at hh; cases hh; cases hc⟩)
theorem FarT.alloc {β : Type} {B : Nat} {J : β → World → Prop} (h : FarT B J) {s : β} {W : World} (o : Obj) (hs : J s W) : J s (W.alloc o) :=
  h s W _ none hs (World.grownBy_alloc W o none) (fun r e => by cases e)
theorem FarT.and {β : Type} {B : Nat} {J K : β → World → Prop} (h : FarT B J) (k : FarT B K) : FarT B (fun s W => J s W ∧ K s W) := fun s W W' row hs hg hr => ⟨h s W W' row hs.1 hg hr, k s W W' row hs.2 hg hr⟩
theorem FarT.mono {β : Type} {B C : Nat} {J : β → World → Prop} (h : FarT B J) (hc : B ≤ C) : FarT C J := fun s W W' row hs hg hr => h s W W' row hs hg fun r e => ⟨Nat.le_trans hc (hr r e).1, (hr r e).2⟩
theorem OwnSt.tyk {base : Nat} {w : World} {A : Option Addr} {c : Nat} {st : List Ent} (h : OwnSt base w A c st) {k : Nat} (e : A.map (·.block) = some k) : ∀ cs f, w.heap[k]? ≠ some (.cells cs 28 f) := by
  intro cs f hh
  rcases h.2 with ⟨h2, _⟩ | ⟨g, cap, cur, hv, hb, hg, rest⟩
  · simp only [Value.slice.injEq] at h2
    rw [h2.1] at e; cases e
  · simp only [Value.slice.injEq] at hv
    obtain ⟨rfl, _, _⟩ := hv
    simp at e
    subst e
    rw [hg] at hh
    cases hh
section
variable {F : Fence} {n : Nat} {P : Program}
/-- What an iterator owes that may turn cells that it has laid itself. -/
def SeqFarT {α : Type} (F : Fence) (n : Nat) (P : Program) (g : Nat) (lb : Array Value) (encs : α → Array Value) (S : Nat → Nat → Prop) (xs : List α) (w : World) : Prop :=
  ∀ (l : Nat) (J Jx : List α → World → Prop) (W : World), Below w.heap.size w W → FarT W.heap.size J → FarT W.heap.size Jx →
    (∀ pre x W1, J pre W1 → pre ++ [x] <+: xs → YieldAt F (n - 1) P l (encs x) W1 fun e W' =>
      (e = .returned (.bool true) ∧ J (pre ++ [x]) W' ∧ KpT S W1 W' ∧ KeepsFrom W.heap.size W1 W') ∨ (e = .returned (.bool false) ∧ Jx (pre ++ [x]) W' ∧ KeepsFrom W.heap.size W1 W')) →
    J [] W →
    CallsIn F n P g (#[.func (.yield l) #[] #[]] ++ lb) W fun e W' => (∃ v, e = .returned v) ∧ (J xs W' ∨ ∃ pre, pre <+: xs ∧ Jx pre W')

theorem range_farGT {α : Type} {g : Operand} {ps : Array Tmp} {assign body : Code} {Q : Exit → Act → World → Prop} {a : Act} {w : World}
    (hro : F.round = none) (h1 : 1 ≤ n) {gf : Nat} {lb : Array Value} (hg : a.eval g = .func (.func gf) #[] lb) (hFg : F.fn gf) (eg : ∀ args w, (callFunc gf args).run P w = .ok (.enter gf args) w)
    {encs : α → Array Value} {S : Nat → Nat → Prop} {xs : List α} {w0 : World} (hseq : SeqFarT F (n - 1) P gf lb encs S xs w0) (hb0 : Below w0.heap.size w0 w) (hps : ∀ x, (encs x).size = ps.size)
    (I : List α → World → Prop) (Ix : Code → List α → World → Prop) (hI : FarT w.heap.size I) (hIx : ∀ c, FarT w.heap.size (Ix c)) (h0 : I [] w) (a₁ : α → Act)
    (hassign : ∀ (l : Nat) (x : α) (W : World) (K : Act → World → Prop), K (a₁ x) W →
      assign.wpIn (F.inRound l) (n - 1 - 1) P (Exit.then K (fun _ _ _ => False)) { tmps := (ps.zip (encs x)).foldl (fun t (p, v) => t.setIfInBounds p v) a.tmps, defers := [] } W)
    (hbody : ∀ (l : Nat) (pre : List α) (x : α) (W : World), I pre W → pre ++ [x] <+: xs → body.wpIn (F.inRound l) (n - 1 - 1) P (ownPostG w.heap.size (KpT S) I Ix (pre ++ [x]) W) (a₁ x) W)
    (hdone : ∀ (D : Nat) (W : World), w.heap.size ≤ D → I xs W → W.heap[D]? = some (.deferred (some [])) → Q .normal { a with defers := { target := .collected D, args := #[] } :: a.defers } W)
    (hstop : ∀ (D : Nat) (c : Code) (pre : List α) (W : World), w.heap.size ≤ D → pre <+: xs → Ix c pre W → W.heap[D]? = some (.deferred (some [])) → c.wpIn F n P Q { a with defers := { target := .collected D, args := #[] } :: a.defers } W) :
    (Code.rangeFunc g ps assign body).wpIn F n P Q a w := by
  refine wpIn_rangeFunc fun fn hfn => ?_
  rw [hro]
  obtain ⟨B, hB⟩ : ∃ B, w.heap.size = B := ⟨_, rfl⟩
  obtain ⟨rec, hrec⟩ : ∃ rec : LoopState → Option Code → Loop, rec = fun st pe => { state := st, pending := pe, fn, tmps := a.tmps, params := ps, assign, body, defers := B } := ⟨_, rfl⟩
  obtain ⟨W1, hW1⟩ : ∃ W1, (w.alloc (.deferred (some []))).alloc (.loop (rec .ready none)) = W1 := ⟨_, rfl⟩
  have hsz : W1.heap.size = B + 2 := by rw [← hW1]; simp [hB]
  have hL1 : W1.heap[B + 1]? = some (.loop (rec .ready none)) := by
    have := World.alloc_heap_new (w.alloc (.deferred (some []))) (.loop (rec .ready none))
    rw [World.size_alloc, hB, hW1] at this; exact this
  have hK1 : W1.heap[B]? = some (.deferred (some [])) := by
    have h := World.alloc_heap_new w (.deferred (some []))
    rw [hB] at h
    rw [← hW1]; exact (Below.heap_alloc _ _ B (by simp [hB])).trans h
  rw [hB] at hI hIx
  have hI1 : I [] W1 := by rw [← hW1]; exact hI.alloc _ (hI.alloc _ h0)
  have hb1 : Below w0.heap.size w0 W1 := by
    have := hb0.size
    rw [← hW1]; exact (hb0.alloc (by omega) _).alloc (by simp; omega) _
  refine ⟨B + 1, [{ target := .collected B, args := #[] }], W1, { target := .fn (.func gf) lb, args := #[.func (.yield (B + 1)) #[] #[]] }, W1, gf,
    #[.func (.yield (B + 1)) #[] #[]] ++ lb, W1, ?_, ?_, ?_, ?_, fun _ => h1, ?_⟩
  · rw [← hW1, hrec, ← hB]; exact run_enterLoop_outer _ _ _ _ _
  · simp only [resolve, hg]
    simp [go_sem]
  · intro f' hf'; simp [Target.leads] at hf'; subst hf'; exact hFg
  · simp [invoke, go_sem, eg]
  let Jb : World → Prop := fun W => W.heap[B]? = some (.deferred (some []))
  refine (hseq (B + 1) (fun pre W => I pre W ∧ W.heap[B + 1]? = some (.loop (rec .ready none)) ∧ Jb W)
    (fun pre W => ∃ c, Ix c pre W ∧ W.heap[B + 1]? = some (.loop (rec .done (some c))) ∧ Jb W) W1 hb1
    ((hI.mono (by omega)).and ((far_block (by omega)).toT.and (far_block (by omega)).toT)) ?_ ?_ ⟨hI1, hL1, hK1⟩).mono ?_
  · rintro s A C row ⟨c, hc, hl, hk⟩ hgr hr
    exact ⟨c, (hIx c).mono (by omega) s A C row hc hgr hr, far_block (β := Unit) (by omega) () A C row hl hgr (fun r e => (hr r e).1), far_block (β := Unit) (by omega) () A C row hk hgr (fun r e => (hr r e).1)⟩
  · rintro pre x W ⟨hi, hl, hk⟩ hpre
    have hlt : B + 1 < W.heap.size := (Array.getElem?_eq_some_iff.1 hl).1
    have hy := run_yield (P := P) (args := encs x) hl (by rw [hrec]; exact hps x)
    rw [hrec] at hy
    refine ⟨fn, _, assign, body, hy, roundIn_of_wpIn hfn (hassign _ x W _ ⟨_, run_beginRound hl (by rw [hrec]), ?_⟩)⟩
    obtain ⟨W2, hW2⟩ : ∃ W2, W.putObj (B + 1) (.loop { rec .ready none with state := .busy }) = W2 := ⟨_, rfl⟩
    rw [hW2]
    have hl2 : W2.heap[B + 1]? = some (.loop { rec .ready none with state := .busy }) := by rw [← hW2]; exact World.putObj_heap_same hlt
    have hk2 : Jb W2 := by rw [← hW2]; exact (World.putObj_heap_other (by omega)).trans hk
    have hw2 : KpT S W W2 := by rw [← hW2]; exact KpT.put _ _ _ _ hl rfl
    refine wpIn_mono (hbody _ pre x _ (by rw [← hW2]; exact hI.put _ hi (by omega) hl rfl) hpre) ?_
    have fin : ∀ (jump : Option Code) (W3 : World), KeepsFrom w.heap.size W2 W3 →
        (Instr.endRound (B + 1) jump).run P W3 = .ok (.bool jump.isNone) (W3.putObj (B + 1) (.loop (rec (if jump.isNone then .ready else .done) jump))) ∧
        W3.heap[B + 1]? = some (.loop { rec .ready none with state := .busy }) ∧
        (W3.putObj (B + 1) (.loop (rec (if jump.isNone then .ready else .done) jump))).heap[B + 1]? = some (.loop (rec (if jump.isNone then .ready else .done) jump)) ∧
        Jb (W3.putObj (B + 1) (.loop (rec (if jump.isNone then .ready else .done) jump))) := fun jump W3 hk3 => by
      have hl3 := hk3.same _ _ (by omega) hl2 rfl
      have hr := run_endRound (P := P) jump hl3
      rw [hrec] at hr ⊢
      exact ⟨hr, by rw [hrec] at hl3; exact hl3, World.putObj_heap_same (Array.getElem?_eq_some_iff.1 hl3).1, (World.putObj_heap_other (by omega)).trans (hk3.same _ _ (by omega) hk2 rfl)⟩
    have keep : ∀ (W3 : World) (o : Obj), KeepsFrom w.heap.size W2 W3 → KeepsFrom W1.heap.size W (W3.putObj (B + 1) o) := fun W3 o hk3 => by
      have h1 : KeepsFrom W1.heap.size W W2 := by rw [← hW2]; exact KeepsFrom.of_grownBy (grownBy_putObj' _ _ _) (fun j e => by cases e; omega)
      have h2 : KeepsFrom W1.heap.size W2 W3 := ⟨hk3.size, fun k o hk => hk3.same k o (by omega)⟩
      exact (h1.trans h2).trans (KeepsFrom.of_grownBy (grownBy_putObj' _ _ _) (fun j e => by cases e; omega))
    rintro e a3 W3 hp
    cases e with
    | normal =>
      obtain ⟨hk3, hkp3, hi3⟩ := hp
      obtain ⟨hr, hl3, hl4, hk4⟩ := fin none W3 hk3
      exact ⟨_, _, hr, .inl ⟨rfl, ⟨hI.put _ hi3 (by omega) hl3 rfl, hl4, hk4⟩, (hw2.trans hkp3).trans (KpT.put _ _ _ _ hl3 rfl), keep _ _ hk3⟩⟩
    | ret =>
      obtain ⟨hk3, hi3⟩ := hp
      obtain ⟨hr, hl3, hl4, hk4⟩ := fin (some .ret) W3 hk3
      exact ⟨_, _, hr, .inr ⟨rfl, ⟨.ret, (hIx _).put _ hi3 (by omega) hl3 rfl, hl4, hk4⟩, keep _ _ hk3⟩⟩
    | exit id =>
      obtain ⟨hk3, hi3⟩ := hp
      obtain ⟨hr, hl3, hl4, hk4⟩ := fin (some (.exit id)) W3 hk3
      exact ⟨_, _, hr, .inr ⟨rfl, ⟨.exit id, (hIx _).put _ hi3 (by omega) hl3 rfl, hl4, hk4⟩, keep _ _ hk3⟩⟩
    | goto t =>
      obtain ⟨hk3, hi3⟩ := hp
      obtain ⟨hr, hl3, hl4, hk4⟩ := fin (some (.goto t)) W3 hk3
      exact ⟨_, _, hr, .inr ⟨rfl, ⟨.goto t, (hIx _).put _ hi3 (by omega) hl3 rfl, hl4, hk4⟩, keep _ _ hk3⟩⟩
    | panic ch => exact hp.elim
    | outgrown => exact hp.elim
  · rintro e W2 ⟨⟨v, rfl⟩, (⟨hi, hl, hk⟩ | ⟨pre, hpre, c, hi, hl, hk⟩)⟩
    · exact ⟨none, _, by have := run_endLoop (P := P) hl (by rw [hrec]; simp); rw [hrec] at this; exact this, hdone B _ (by omega) (hI.put _ hi (by omega) hl rfl) ((World.putObj_heap_other (by omega)).trans hk)⟩
    · exact ⟨some c, _, by have := run_endLoop (P := P) hl (by rw [hrec]; simp); rw [hrec] at this; exact this, hstop B c pre _ (by omega) hpre ((hIx c).put _ hi (by omega) hl rfl) ((World.putObj_heap_other (by omega)).trans hk)⟩
theorem range_farHT {α : Type} {g : Operand} {ps : Array Tmp} {assign body : Code} {Q : Exit → Act → World → Prop} {a : Act} {w : World}
    (hro : F.round = none) (h1 : 1 ≤ n) {gf : Nat} {lb : Array Value} (hg : a.eval g = .func (.func gf) #[] lb) (hFg : F.fn gf) (eg : ∀ args w, (callFunc gf args).run P w = .ok (.enter gf args) w)
    {encs : α → Array Value} {S : Nat → Nat → Prop} {xs : List α} {w0 : World} (hseq : SeqFarT F (n - 1) P gf lb encs S xs w0) (hb0 : Below w0.heap.size w0 w) (hps : ∀ x, (encs x).size = ps.size)
    (I : List α → World → Prop) (Ix : Code → List α → World → Prop) (hI : FarT w.heap.size I) (hIx : ∀ c, FarT w.heap.size (Ix c)) (h0 : I [] w) (Ax : α → Act → World → Prop) (hAx : ∀ x a', FarT w.heap.size (fun (_ : Unit) W => Ax x a' W))
    (hassign : ∀ (l : Nat) (pre : List α) (x : α) (W : World) (K : Act → World → Prop), I pre W → (∀ a' W', KeepsFrom w.heap.size W W' → KpT S W W' → I pre W' → Ax x a' W' → K a' W') →
      assign.wpIn (F.inRound l) (n - 1 - 1) P (Exit.then K (fun _ _ _ => False)) { tmps := (ps.zip (encs x)).foldl (fun t (p, v) => t.setIfInBounds p v) a.tmps, defers := [] } W)
    (hbody : ∀ (l : Nat) (pre : List α) (x : α) (a' : Act) (W : World), I pre W → Ax x a' W → pre ++ [x] <+: xs → body.wpIn (F.inRound l) (n - 1 - 1) P (ownPostG w.heap.size (KpT S) I Ix (pre ++ [x]) W) a' W)
    (hdone : ∀ (D : Nat) (W : World), w.heap.size ≤ D → I xs W → W.heap[D]? = some (.deferred (some [])) → Q .normal { a with defers := { target := .collected D, args := #[] } :: a.defers } W)
    (hstop : ∀ (D : Nat) (c : Code) (pre : List α) (W : World), w.heap.size ≤ D → pre <+: xs → Ix c pre W → W.heap[D]? = some (.deferred (some [])) → c.wpIn F n P Q { a with defers := { target := .collected D, args := #[] } :: a.defers } W) :
    (Code.rangeFunc g ps assign body).wpIn F n P Q a w := by
  refine wpIn_rangeFunc fun fn hfn => ?_
  rw [hro]
  obtain ⟨B, hB⟩ : ∃ B, w.heap.size = B := ⟨_, rfl⟩
  obtain ⟨rec, hrec⟩ : ∃ rec : LoopState → Option Code → Loop, rec = fun st pe => { state := st, pending := pe, fn, tmps := a.tmps, params := ps, assign, body, defers := B } := ⟨_, rfl⟩
  obtain ⟨W1, hW1⟩ : ∃ W1, (w.alloc (.deferred (some []))).alloc (.loop (rec .ready none)) = W1 := ⟨_, rfl⟩
  have hsz : W1.heap.size = B + 2 := by rw [← hW1]; simp [hB]
  have hL1 : W1.heap[B + 1]? = some (.loop (rec .ready none)) := by
    have := World.alloc_heap_new (w.alloc (.deferred (some []))) (.loop (rec .ready none))
    rw [World.size_alloc, hB, hW1] at this; exact this
  have hK1 : W1.heap[B]? = some (.deferred (some [])) := by
    have h := World.alloc_heap_new w (.deferred (some []))
    rw [hB] at h
    rw [← hW1]; exact (Below.heap_alloc _ _ B (by simp [hB])).trans h
  rw [hB] at hI hIx
  have hAx := fun x a' => (hB ▸ hAx x a' : FarT B _)
  have hI1 : I [] W1 := by rw [← hW1]; exact hI.alloc _ (hI.alloc _ h0)
  have hb1 : Below w0.heap.size w0 W1 := by
    have := hb0.size
    rw [← hW1]; exact (hb0.alloc (by omega) _).alloc (by simp; omega) _
  refine ⟨B + 1, [{ target := .collected B, args := #[] }], W1, { target := .fn (.func gf) lb, args := #[.func (.yield (B + 1)) #[] #[]] }, W1, gf,
    #[.func (.yield (B + 1)) #[] #[]] ++ lb, W1, ?_, ?_, ?_, ?_, fun _ => h1, ?_⟩
  · rw [← hW1, hrec, ← hB]; exact run_enterLoop_outer _ _ _ _ _
  · simp only [resolve, hg]
    simp [go_sem]
  · intro f' hf'; simp [Target.leads] at hf'; subst hf'; exact hFg
  · simp [invoke, go_sem, eg]
  let Jb : World → Prop := fun W => W.heap[B]? = some (.deferred (some []))
  refine (hseq (B + 1) (fun pre W => I pre W ∧ W.heap[B + 1]? = some (.loop (rec .ready none)) ∧ Jb W)
    (fun pre W => ∃ c, Ix c pre W ∧ W.heap[B + 1]? = some (.loop (rec .done (some c))) ∧ Jb W) W1 hb1
    ((hI.mono (by omega)).and ((far_block (by omega)).toT.and (far_block (by omega)).toT)) ?_ ?_ ⟨hI1, hL1, hK1⟩).mono ?_
  · rintro s A C row ⟨c, hc, hl, hk⟩ hgr hr
    exact ⟨c, (hIx c).mono (by omega) s A C row hc hgr hr, far_block (β := Unit) (by omega) () A C row hl hgr (fun r e => (hr r e).1), far_block (β := Unit) (by omega) () A C row hk hgr (fun r e => (hr r e).1)⟩
  · rintro pre x W ⟨hi, hl, hk⟩ hpre
    have hlt : B + 1 < W.heap.size := (Array.getElem?_eq_some_iff.1 hl).1
    have hy := run_yield (P := P) (args := encs x) hl (by rw [hrec]; exact hps x)
    rw [hrec] at hy
    refine ⟨fn, _, assign, body, hy, roundIn_of_wpIn hfn (hassign _ pre x W _ hi ?_)⟩
    clear hy
    intro a' Wa hkfa hkpa hia hax
    replace hl := hkfa.same _ _ (by omega) hl rfl
    replace hk : Jb Wa := hkfa.same _ _ (by omega) hk rfl
    replace hlt : B + 1 < Wa.heap.size := (Array.getElem?_eq_some_iff.1 hl).1
    replace hi := hia
    clear hia
    revert hkpa hkfa
    generalize W = Wb
    intro hkfa hkpa
    obtain ⟨W, rfl⟩ : ∃ W, W = Wa := ⟨_, rfl⟩
    refine ⟨_, run_beginRound hl (by rw [hrec]), ?_⟩
    obtain ⟨W2, hW2⟩ : ∃ W2, W.putObj (B + 1) (.loop { rec .ready none with state := .busy }) = W2 := ⟨_, rfl⟩
    rw [hW2]
    have hl2 : W2.heap[B + 1]? = some (.loop { rec .ready none with state := .busy }) := by rw [← hW2]; exact World.putObj_heap_same hlt
    have hk2 : Jb W2 := by rw [← hW2]; exact (World.putObj_heap_other (by omega)).trans hk
    have hw2 : KpT S W W2 := by rw [← hW2]; exact KpT.put _ _ _ _ hl rfl
    refine wpIn_mono (hbody _ pre x a' _ (by rw [← hW2]; exact hI.put _ hi (by omega) hl rfl) (by rw [← hW2]; exact (hAx x a').put (s := ()) _ hax (by omega) hl rfl) hpre) ?_
    have fin : ∀ (jump : Option Code) (W3 : World), KeepsFrom w.heap.size W2 W3 →
        (Instr.endRound (B + 1) jump).run P W3 = .ok (.bool jump.isNone) (W3.putObj (B + 1) (.loop (rec (if jump.isNone then .ready else .done) jump))) ∧
        W3.heap[B + 1]? = some (.loop { rec .ready none with state := .busy }) ∧
        (W3.putObj (B + 1) (.loop (rec (if jump.isNone then .ready else .done) jump))).heap[B + 1]? = some (.loop (rec (if jump.isNone then .ready else .done) jump)) ∧
        Jb (W3.putObj (B + 1) (.loop (rec (if jump.isNone then .ready else .done) jump))) := fun jump W3 hk3 => by
      have hl3 := hk3.same _ _ (by omega) hl2 rfl
      have hr := run_endRound (P := P) jump hl3
      rw [hrec] at hr ⊢
      exact ⟨hr, by rw [hrec] at hl3; exact hl3, World.putObj_heap_same (Array.getElem?_eq_some_iff.1 hl3).1, (World.putObj_heap_other (by omega)).trans (hk3.same _ _ (by omega) hk2 rfl)⟩
    have hka : KeepsFrom W1.heap.size Wb W := ⟨hkfa.size, fun k o hk => hkfa.same k o (by omega)⟩
    have keep : ∀ (W3 : World) (o : Obj), KeepsFrom w.heap.size W2 W3 → KeepsFrom W1.heap.size Wb (W3.putObj (B + 1) o) := fun W3 o hk3 => by
      refine hka.trans ?_
      have h1 : KeepsFrom W1.heap.size W W2 := by rw [← hW2]; exact KeepsFrom.of_grownBy (grownBy_putObj' _ _ _) (fun j e => by cases e; omega)
      have h2 : KeepsFrom W1.heap.size W2 W3 := ⟨hk3.size, fun k o hk => hk3.same k o (by omega)⟩
      exact (h1.trans h2).trans (KeepsFrom.of_grownBy (grownBy_putObj' _ _ _) (fun j e => by cases e; omega))
    rintro e a3 W3 hp
    cases e with
    | normal =>
      obtain ⟨hk3, hkp3, hi3⟩ := hp
      obtain ⟨hr, hl3, hl4, hk4⟩ := fin none W3 hk3
      exact ⟨_, _, hr, .inl ⟨rfl, ⟨hI.put _ hi3 (by omega) hl3 rfl, hl4, hk4⟩, (hkpa.trans (hw2.trans hkp3)).trans (KpT.put _ _ _ _ hl3 rfl), keep _ _ hk3⟩⟩
    | ret =>
      obtain ⟨hk3, hi3⟩ := hp
      obtain ⟨hr, hl3, hl4, hk4⟩ := fin (some .ret) W3 hk3
      exact ⟨_, _, hr, .inr ⟨rfl, ⟨.ret, (hIx _).put _ hi3 (by omega) hl3 rfl, hl4, hk4⟩, keep _ _ hk3⟩⟩
    | exit id =>
      obtain ⟨hk3, hi3⟩ := hp
      obtain ⟨hr, hl3, hl4, hk4⟩ := fin (some (.exit id)) W3 hk3
      exact ⟨_, _, hr, .inr ⟨rfl, ⟨.exit id, (hIx _).put _ hi3 (by omega) hl3 rfl, hl4, hk4⟩, keep _ _ hk3⟩⟩
    | goto t =>
      obtain ⟨hk3, hi3⟩ := hp
      obtain ⟨hr, hl3, hl4, hk4⟩ := fin (some (.goto t)) W3 hk3
      exact ⟨_, _, hr, .inr ⟨rfl, ⟨.goto t, (hIx _).put _ hi3 (by omega) hl3 rfl, hl4, hk4⟩, keep _ _ hk3⟩⟩
    | panic ch => exact hp.elim
    | outgrown => exact hp.elim
  · rintro e W2 ⟨⟨v, rfl⟩, (⟨hi, hl, hk⟩ | ⟨pre, hpre, c, hi, hl, hk⟩)⟩
    · exact ⟨none, _, by have := run_endLoop (P := P) hl (by rw [hrec]; simp); rw [hrec] at this; exact this, hdone B _ (by omega) (hI.put _ hi (by omega) hl rfl) ((World.putObj_heap_other (by omega)).trans hk)⟩
    · exact ⟨some c, _, by have := run_endLoop (P := P) hl (by rw [hrec]; simp); rw [hrec] at this; exact this, hstop B c pre _ (by omega) hpre ((hIx c).put _ hi (by omega) hl rfl) ((World.putObj_heap_other (by omega)).trans hk)⟩
end
theorem infoFsT : (Tryd.prog.info? 26).map (fun i => (i.zero, i.size, i.bytes)) = some (some (.slice none 0 0), 1, 24) := by kernel_rfl
set_option maxRecDepth 100000 in
set_option maxHeartbeats 4000000 in
theorem each_farT (n N g : Nat) (S : Nat → Nat → Prop) (hS : ∀ k t, S k t → N ≤ k) (w0 : World) (hS0 : ∀ k, S k 26 → k < w0.heap.size) (hSg : ¬ S g 72) (bf : Nat) (x : Nd) (A : Option Addr) (c : Nat) (ks : Fo)
    (hg : Blk w0 g 72 #[.pointer (some ⟨bf, 0, none⟩)]) (ht : FoSl N w0 A c ks) (hr : Blk w0 bf 28 #[.int .i64 x.op, .string x.name, .int .i64 x.cmp, .int .i64 x.val, .int .i64 x.lo, .int .i64 x.hi, .slice A ks.len c]) (hSb : ¬ S bf 28) (hN : N ≤ w0.heap.size) (hsz : ks.tr.size ≤ 100000) :
    SeqFarT Fence.wide n Tryd.prog 51 #[.pointer (some ⟨g, 0, none⟩)] visEnc S ((Fo.cons x A c ks .nil).vis bf 0 1) w0 := by
  intro l J Jx W hW hJ hJx hY h0
  obtain ⟨i0, hi0, hz0, hz1, hz2⟩ := info_parts infoFs
  have hgWb : Blk W g 72 #[.pointer (some ⟨bf, 0, none⟩)] := (hW.block g hg.lt).trans hg
  have hgW : W.cell? ⟨g, 0, none⟩ = some (.pointer (some ⟨bf, 0, none⟩)) := hgWb.cell 0
  have htW : FoSl N W A c ks := ht.keep (fun k _ hk => hW.block k hk)
  have HRB := Lib.hid (show Blk W bf 28 #[.int .i64 x.op, .string x.name, .int .i64 x.cmp, .int .i64 x.val, .int .i64 x.lo, .int .i64 x.hi, .slice A ks.len c] from (hW.block bf hr.lt).trans hr)
  have HSB := Lib.hid hSb
  have hsW := hW.size
  have hL : (Fo.cons x A c ks .nil).vis bf 0 1 = ⟨bf, 0, x, A, ks.len, c, 1⟩ :: ks.vis (ab A) (ao A) 2 := by simp [Fo.vis]
  have hLl : ((Fo.cons x A c ks .nil).vis bf 0 1).length ≤ 100001 := by rw [Fo.vis_len]; simp [Fo.tr, Tr.size]; omega
  rw [hL] at hY hLl ⊢
  have HG := Lib.hid hgWb
  have HSG := Lib.hid hSg
  have HT := Lib.hid htW
  have HS := Lib.hid hS
  have HS0 := Lib.hid hS0
  have HLL := Lib.hid hLl
  clear hg ht hS hL hLl hS0 hSg hgWb hr hSb
  obtain ⟨fn, tmps, assign, body, hy, hR⟩ := hY [] ⟨bf, 0, x, A, ks.len, c, 1⟩ W h0 (by simp)
  have HY := Lib.hid hY
  have H0 := Lib.hid h0
  clear hY h0 htW
  unfold visEnc at hy
  dsimp only at hy
  have hy : (Instr.yield l #[.pointer (some ⟨bf, 0, none⟩), .int .i64 1]).run Tryd.prog W = .ok (.round l fn tmps assign body) W := hy
  refine callsIn_of_wp Tryd.func51 rfl trivial ?_ rfl
  simp only [Tryd.ntmps51, List.size_toArray, List.length_cons, List.length_nil, Nat.reduceAdd, Nat.reduceSub, Array.replicate_succ, Array.replicate_zero, List.push_toArray, List.append_toArray, List.nil_append, List.cons_append]
  gi_wp2
  refine ⟨fun h => (by cases h), hR.mono ?_⟩
  clear hR hy
  rintro e W1 (⟨rfl, hJ1, hk1, _⟩ | ⟨rfl, hJx1, _⟩)
  · obtain ⟨a4, a5, a6⟩ := HT.out.kpT hk1 HS.out
    have d6 : W1.cell? ⟨bf, 6, none⟩ = some (.slice A ks.len c) := (hk1.blk HRB.out HSB.out).cell 6
    have hgW1 : W1.cell? ⟨g, 0, none⟩ = some (.pointer (some ⟨bf, 0, none⟩)) := (hk1.blk HG.out HSG.out).cell 0
    have hs1 := hk1.1
    have HI := Lib.hid (show EachI N W1.heap.size (⟨bf, 0, x, A, ks.len, c, 1⟩ :: ks.vis (ab A) (ao A) 2) (W1.alloc (.cells #[.slice A ks.len c] 26)) (some ⟨W1.heap.size, 0, none⟩) 1 [⟨ks, A, c⟩] [⟨bf, 0, x, A, ks.len, c, 1⟩] from
      ⟨⟨by rfl, .inr ⟨W1.heap.size, 1, _, rfl, Nat.le_refl _, heap_alloc_new _ _, Nat.le_refl _, by decide, rfl, rfl⟩⟩, by simp [stVis], fun e he => by
        simp only [List.mem_singleton] at he
        subst he
        exact FoSl.keep ⟨a4, a5, a6⟩ (fun k _ hk => Below.heap_alloc _ _ k hk), Nat.le_refl _, by simp⟩)
    have HJ1 := Lib.hid (hJ.alloc (.cells #[.slice A ks.len c] 26) hJ1)
    clear a4 a5 a6
    have hLp := HLL.out
    clear HLL
    obtain ⟨L, hL⟩ : ∃ L : List Vis, (⟨bf, 0, x, A, ks.len, c, 1⟩ :: ks.vis (ab A) (ao A) 2) = L := ⟨_, rfl⟩
    have hl0 : 2 * (stVis [⟨ks, A, c⟩]).length + 1 = 2 * L.length - 1 := by rw [← hL]; simp [stVis]; omega
    rw [hL] at HI HY hLp
    have HLN := Lib.hid hL
    have HL0 := Lib.hid hl0
    clear hl0 hL HT HG hgW hk1
    gi_wp2
    gi_loopg [3] (2 * L.length - 1) (fun k sv wr => ∃ (A' : Option Addr) (c' : Nat) (st : List Ent) (pre : List Vis), sv = .slice A' st.length c' ∧ k = 2 * (stVis st).length + st.length ∧ Hid (EachI N W1.heap.size L wr A' c' st pre) ∧ Hid (J pre wr))
    case atStart => exact ⟨_, _, _, _, rfl, HL0.out.symm, HI, HJ1⟩
    case round =>
      obtain ⟨A', c', st, pre, rfl, hgk, hi, hj⟩ := hrel
      cases st with
      | nil =>
        have HE := Lib.hid (show L = pre by have := hi.out.eq; simpa [stVis] using this)
        clear hgk
        gi_wp2
        go_end0
        exact ⟨⟨_, rfl⟩, .inl (by rw [HLN.out, HE.out]; exact hj.out)⟩
      | cons e r =>
        obtain ⟨g', rfl, hg1, hg2, hc, hfz, hlc, hcm⟩ := hi.out.own.last
        have hfew := hi.out.few
        have heq := hi.out.eq
        have htr := hi.out.trees e (by simp)
        have hsb := hi.out.size
        obtain ⟨f, B, d⟩ := e
        have hfw : (r.length : Int) ≤ 100000 := by
          have := congrArg List.length heq
          rw [List.length_append] at this
          simp only [List.length_cons] at hfew
          omega
        have hrl : (0 : Int) ≤ r.length := by omega
        have HTR := Lib.hid (fun e he => hi.out.trees e (List.mem_cons_of_mem _ he))
        have HOW := Lib.hid hi.out.own
        clear hi
        unfold entv at hc
        cases f with
        | nil =>
          replace hc : wr.cell? ⟨g', r.length, none⟩ = some (.slice B 0 d) := hc
          have HI2 := Lib.hid (show EachI N W1.heap.size L wr (some ⟨g', 0, none⟩) c' r pre from ⟨HOW.out.pop, by rw [heq]; simp [stVis, Fo.vis], HTR.out, by simp at hfew; omega, hsb⟩)
          have HG2 := Lib.hid (show 2 * (stVis r).length + r.length < gk by rw [hgk]; simp [stVis, Fo.vis])
          simp only [List.length_cons]
          clear hgk heq htr hfew HOW
          gi_wp2
          gi_roundg (2 * (stVis r).length + r.length)
          case rel => exact ⟨_, _, r, pre, rfl, rfl, HI2, hj⟩
          case measure => exact HG2.out
        | cons y B2 d2 js rs =>
          obtain ⟨bb, oo, rfl⟩ := htr.some_ (by simp [Fo.len])
          have hokl : rs.len + 1 ≤ d := htr.ok.le
          have HOKM := Lib.hid htr.ok.max
          obtain ⟨q, rfl⟩ : ∃ q, d = q + 1 := ⟨d - 1, by omega⟩
          replace hc : wr.cell? ⟨g', r.length, none⟩ = some (.slice (some ⟨bb, oo, none⟩) (rs.len + 1) (q + 1)) := hc
          obtain ⟨t1, t2, t3, t4, t5, t6, t7⟩ := htr.at_ bb oo rfl
          have HEQ := Lib.hid heq
          have HGK := Lib.hid hgk
          have HNA := Lib.hid (NdAt.of t3)
          have HJS := Lib.hid (show FoSl N wr B2 d2 js from ⟨t4, t5, t6⟩)
          have HRS := Lib.hid (htr.at_ bb oo rfl).2.2.2.2.2.2
          simp only [List.length_cons] at hfew
          simp only [List.length_cons]
          clear hgk heq htr t3 t4 t5 t6 t7
          have hgr : W1.heap.size ≤ (wr.setCell ⟨g', r.length, none⟩ undef).heap.size := by simpa using hsb
          rcases Nat.eq_zero_or_pos q with hq | hq
          · subst hq
            have hrs0 : rs = .nil := by cases rs with | nil => rfl | cons => simp [Fo.len] at hokl
            subst hrs0
            simp only [Fo.len] at hc hokl
            have HJ2 := Lib.hid (hJ pre wr (wr.setCell ⟨g', r.length, none⟩ (.slice (some ⟨bb, oo, none⟩) 0 0)) (some g') hj.out (grown_set _ _ _) (fun k e => by cases e; exact ⟨by omega, HOW.out.tyk rfl⟩))
            have HPR := Lib.hid (show pre ++ [⟨bb, oo, y, B2, js.len, d2, r.length + 2⟩] <+: L by rw [HEQ.out]; exact ⟨_, by simp [stVis, Fo.vis, ab, ao]; rfl⟩)
            obtain ⟨fn2, tmps2, assign2, body2, hy2, hR2⟩ := HY.out pre _ _ HJ2.out HPR.out
            replace hy2 : (Instr.yield l #[.pointer (some ⟨bb, oo, none⟩), .int .i64 ((r.length : Int) + 2)]).run Tryd.prog (wr.setCell ⟨g', r.length, none⟩ (.slice (some ⟨bb, oo, none⟩) 0 0)) = .ok (.round l fn2 tmps2 assign2 body2) (wr.setCell ⟨g', r.length, none⟩ (.slice (some ⟨bb, oo, none⟩) 0 0)) := hy2
            have HOS := Lib.hid (HOW.out.set ⟨Fo.nil, some ⟨bb, oo, none⟩, 0⟩ rfl)
            have hNb : ∀ k, k < N → k < wr.heap.size → (wr.setCell ⟨g', r.length, none⟩ (.slice (some ⟨bb, oo, none⟩) 0 0)).heap[k]? = wr.heap[k]? := fun k hk _ => Below.heap_setCell wr ⟨g', r.length, none⟩ _ k (fun e => by simp at e; omega)
            have HJS2 := Lib.hid (HJS.out.keep hNb)
            have HTR2 := Lib.hid (fun e he => (HTR.out e he).keep hNb)
            have HRS2 := Lib.hid (show FoSl N (wr.setCell ⟨g', r.length, none⟩ (.slice (some ⟨bb, oo, none⟩) 0 0)) (some ⟨bb, oo, none⟩) 0 Fo.nil from FoSl.keep ⟨⟨by first | exact Nat.le_refl 0 | omega, by first | exact Nat.zero_le _ | exact Nat.le_of_succ_le HOKM.out, fun e => by cases e⟩, fun _ => ⟨_, _, rfl⟩, fun b2 o2 e => by cases e; exact trivial⟩ hNb)
            have hd6 : (wr.setCell ⟨g', r.length, none⟩ (.slice (some ⟨bb, oo, none⟩) 0 0)).cell? ⟨bb, oo + 6, none⟩ = some (.slice B2 js.len d2) := (World.cell?_of_block (hNb bb t1 t2)).trans HNA.out.h6
            have HD6 := Lib.hid hd6
            have HGN := Lib.hid (show 2 * (stVis (⟨js, B2, d2⟩ :: ⟨Fo.nil, some ⟨bb, oo, none⟩, 0⟩ :: r)).length + (r.length + 2) < gk by
              rw [HGK.out]; simp [stVis, Fo.vis, Fo.vis_len]; omega)
            have HEN := Lib.hid (show L = (pre ++ [⟨bb, oo, y, B2, js.len, d2, r.length + 2⟩]) ++ stVis (⟨js, B2, d2⟩ :: ⟨Fo.nil, some ⟨bb, oo, none⟩, 0⟩ :: r) by
              rw [HEQ.out]; simp [stVis, Fo.vis, ab, ao])
            have HNB := Lib.hid hNb
            clear hNb hd6
            gi_wp2
            refine ⟨fun h => (by cases h), hR2.mono ?_⟩
            clear hR2 hy2
            rintro e W3 (⟨rfl, hJ3, hk3, _⟩ | ⟨rfl, hJx3, _⟩)
            · have HO3 := Lib.hid (HOS.out.kpT hk3 (fun k hk => by have := HS0.out k hk; omega))
              have HT3 := Lib.hid (show ∀ e ∈ (⟨js, B2, d2⟩ :: ⟨Fo.nil, some ⟨bb, oo, none⟩, 0⟩ :: r : List Ent), FoSl N W3 e.A e.c e.f from fun e he => by
                simp only [List.mem_cons] at he
                rcases he with rfl | rfl | he
                · exact HJS2.out.kpT hk3 HS.out
                · exact HRS2.out.kpT hk3 HS.out
                · exact (HTR2.out e he).kpT hk3 HS.out)
              have d6 : W3.cell? ⟨bb, oo + 6, none⟩ = some (.slice B2 js.len d2) := hk3.cell HD6.out (fun t e => by have := HS.out _ t e; simp at this; omega)
              have hw3 : wr.heap.size ≤ W3.heap.size := by have := hk3.1; simpa using this
              have HJ3 := Lib.hid hJ3
              clear hJ3 hk3
              gi_wp2_with (gi_at_builtin; refine wpListIn_append_own_at _ rfl _ _ 114 rfl W1.heap.size 26 i0 (.slice none 0 0) 1 24 Tryd.underlying114 hi0 hz0 hz1 hz2 rfl (by decide) _ (r.length + 1) (rowOf (⟨Fo.nil, some ⟨bb, oo, none⟩, 0⟩ :: r)) rfl (World.ownsRow.alloc HO3.out _) ⟨W3.heap.size, 0, none⟩ 1 1 [.slice B2 js.len d2] rfl rfl (cell_one_new _ _ _) (by simp [Value.oneCell']) (by unfold maxLen; omega) (by omega) (by simp; omega) ?_; intro v' w1 hown1 hgrow1 _ hat1; obtain ⟨g'', cap', rfl⟩ := ownsRow_succ hown1; have HO1 := Lib.hid hown1; have HG1 := Lib.hid hgrow1; clear hown1 hgrow1 hat1)
              have hgg := own_base (w := W3) HO3.out
              have HI4 := Lib.hid (show EachI N W1.heap.size L w1 (some ⟨g'', 0, none⟩) cap' (⟨js, B2, d2⟩ :: ⟨Fo.nil, some ⟨bb, oo, none⟩, 0⟩ :: r) (pre ++ [⟨bb, oo, y, B2, js.len, d2, r.length + 2⟩]) from
                ⟨by have h := HO1.out; rw [show [Value.slice B2 js.len d2] = [entv ⟨js, B2, d2⟩] from rfl, ← rowOf_cons] at h; exact h, HEN.out,
                  fun e he => (HT3.out e he).keep (fun k hk hk2 => (HG1.out.block k (by simp; omega) (fun e => by have := hgg k e.symm; omega)).trans (Below.heap_alloc _ _ k hk2)),
                  by simp; omega, by have := HG1.out.size; simp at this; omega⟩)
              have HJ4 := Lib.hid (hJ _ _ _ _ (hJ.alloc (.cells #[.slice B2 js.len d2] 26) HJ3.out) HG1.out (fun k e => ⟨by have := hgg k e; omega, fun cs f hh => HO3.out.tyk e cs f (by have hlt := HO3.out.ltk e; rwa [Below.heap_alloc _ _ k hlt] at hh)⟩))
              gi_wp2
              gi_roundg (2 * (stVis (⟨js, B2, d2⟩ :: ⟨Fo.nil, some ⟨bb, oo, none⟩, 0⟩ :: r)).length + (r.length + 2))
              case rel => exact ⟨_, _, _, _, rfl, rfl, HI4, HJ4⟩
              case measure => exact HGN.out
            · gi_wp2
              refine bodyPost_ret (results_none rfl _ _ _) rfl ?_
              exact ⟨⟨_, rfl⟩, .inr ⟨_, by rw [HLN.out]; exact HPR.out, hJx3⟩⟩
          · skip
            have HJ2 := Lib.hid (hJ pre wr (wr.setCell ⟨g', r.length, none⟩ (.slice (some ⟨bb, (oo + 7), none⟩) rs.len q)) (some g') hj.out (grown_set _ _ _) (fun k e => by cases e; exact ⟨by omega, HOW.out.tyk rfl⟩))
            have HPR := Lib.hid (show pre ++ [⟨bb, oo, y, B2, js.len, d2, r.length + 2⟩] <+: L by rw [HEQ.out]; exact ⟨_, by simp [stVis, Fo.vis, ab, ao]; rfl⟩)
            obtain ⟨fn2, tmps2, assign2, body2, hy2, hR2⟩ := HY.out pre _ _ HJ2.out HPR.out
            replace hy2 : (Instr.yield l #[.pointer (some ⟨bb, oo, none⟩), .int .i64 ((r.length : Int) + 2)]).run Tryd.prog (wr.setCell ⟨g', r.length, none⟩ (.slice (some ⟨bb, (oo + 7), none⟩) rs.len q)) = .ok (.round l fn2 tmps2 assign2 body2) (wr.setCell ⟨g', r.length, none⟩ (.slice (some ⟨bb, (oo + 7), none⟩) rs.len q)) := hy2
            have HOS := Lib.hid (HOW.out.set ⟨rs, some ⟨bb, (oo + 7), none⟩, q⟩ rfl)
            have hNb : ∀ k, k < N → k < wr.heap.size → (wr.setCell ⟨g', r.length, none⟩ (.slice (some ⟨bb, (oo + 7), none⟩) rs.len q)).heap[k]? = wr.heap[k]? := fun k hk _ => Below.heap_setCell wr ⟨g', r.length, none⟩ _ k (fun e => by simp at e; omega)
            have HJS2 := Lib.hid (HJS.out.keep hNb)
            have HTR2 := Lib.hid (fun e he => (HTR.out e he).keep hNb)
            have HRS2 := Lib.hid (show FoSl N (wr.setCell ⟨g', r.length, none⟩ (.slice (some ⟨bb, (oo + 7), none⟩) rs.len q)) (some ⟨bb, (oo + 7), none⟩) q rs from FoSl.keep ⟨⟨by first | exact Nat.le_refl 0 | omega, by first | exact Nat.zero_le _ | exact Nat.le_of_succ_le HOKM.out, fun e => by cases e⟩, fun _ => ⟨_, _, rfl⟩, fun b2 o2 e => by cases e; exact HRS.out⟩ hNb)
            have hd6 : (wr.setCell ⟨g', r.length, none⟩ (.slice (some ⟨bb, (oo + 7), none⟩) rs.len q)).cell? ⟨bb, oo + 6, none⟩ = some (.slice B2 js.len d2) := (World.cell?_of_block (hNb bb t1 t2)).trans HNA.out.h6
            have HD6 := Lib.hid hd6
            have HGN := Lib.hid (show 2 * (stVis (⟨js, B2, d2⟩ :: ⟨rs, some ⟨bb, (oo + 7), none⟩, q⟩ :: r)).length + (r.length + 2) < gk by
              rw [HGK.out]; simp [stVis, Fo.vis, Fo.vis_len]; omega)
            have HEN := Lib.hid (show L = (pre ++ [⟨bb, oo, y, B2, js.len, d2, r.length + 2⟩]) ++ stVis (⟨js, B2, d2⟩ :: ⟨rs, some ⟨bb, (oo + 7), none⟩, q⟩ :: r) by
              rw [HEQ.out]; simp [stVis, Fo.vis, ab, ao])
            have HNB := Lib.hid hNb
            clear hNb hd6
            gi_wp2
            refine ⟨fun h => (by cases h), hR2.mono ?_⟩
            clear hR2 hy2
            rintro e W3 (⟨rfl, hJ3, hk3, _⟩ | ⟨rfl, hJx3, _⟩)
            · have HO3 := Lib.hid (HOS.out.kpT hk3 (fun k hk => by have := HS0.out k hk; omega))
              have HT3 := Lib.hid (show ∀ e ∈ (⟨js, B2, d2⟩ :: ⟨rs, some ⟨bb, (oo + 7), none⟩, q⟩ :: r : List Ent), FoSl N W3 e.A e.c e.f from fun e he => by
                simp only [List.mem_cons] at he
                rcases he with rfl | rfl | he
                · exact HJS2.out.kpT hk3 HS.out
                · exact HRS2.out.kpT hk3 HS.out
                · exact (HTR2.out e he).kpT hk3 HS.out)
              have d6 : W3.cell? ⟨bb, oo + 6, none⟩ = some (.slice B2 js.len d2) := hk3.cell HD6.out (fun t e => by have := HS.out _ t e; simp at this; omega)
              have hw3 : wr.heap.size ≤ W3.heap.size := by have := hk3.1; simpa using this
              have HJ3 := Lib.hid hJ3
              clear hJ3 hk3
              gi_wp2_with (gi_at_builtin; refine wpListIn_append_own_at _ rfl _ _ 114 rfl W1.heap.size 26 i0 (.slice none 0 0) 1 24 Tryd.underlying114 hi0 hz0 hz1 hz2 rfl (by decide) _ (r.length + 1) (rowOf (⟨rs, some ⟨bb, (oo + 7), none⟩, q⟩ :: r)) rfl (World.ownsRow.alloc HO3.out _) ⟨W3.heap.size, 0, none⟩ 1 1 [.slice B2 js.len d2] rfl rfl (cell_one_new _ _ _) (by simp [Value.oneCell']) (by unfold maxLen; omega) (by omega) (by simp; omega) ?_; intro v' w1 hown1 hgrow1 _ hat1; obtain ⟨g'', cap', rfl⟩ := ownsRow_succ hown1; have HO1 := Lib.hid hown1; have HG1 := Lib.hid hgrow1; clear hown1 hgrow1 hat1)
              have hgg := own_base (w := W3) HO3.out
              have HI4 := Lib.hid (show EachI N W1.heap.size L w1 (some ⟨g'', 0, none⟩) cap' (⟨js, B2, d2⟩ :: ⟨rs, some ⟨bb, (oo + 7), none⟩, q⟩ :: r) (pre ++ [⟨bb, oo, y, B2, js.len, d2, r.length + 2⟩]) from
                ⟨by have h := HO1.out; rw [show [Value.slice B2 js.len d2] = [entv ⟨js, B2, d2⟩] from rfl, ← rowOf_cons] at h; exact h, HEN.out,
                  fun e he => (HT3.out e he).keep (fun k hk hk2 => (HG1.out.block k (by simp; omega) (fun e => by have := hgg k e.symm; omega)).trans (Below.heap_alloc _ _ k hk2)),
                  by simp; omega, by have := HG1.out.size; simp at this; omega⟩)
              have HJ4 := Lib.hid (hJ _ _ _ _ (hJ.alloc (.cells #[.slice B2 js.len d2] 26) HJ3.out) HG1.out (fun k e => ⟨by have := hgg k e; omega, fun cs f hh => HO3.out.tyk e cs f (by have hlt := HO3.out.ltk e; rwa [Below.heap_alloc _ _ k hlt] at hh)⟩))
              gi_wp2
              gi_roundg (2 * (stVis (⟨js, B2, d2⟩ :: ⟨rs, some ⟨bb, (oo + 7), none⟩, q⟩ :: r)).length + (r.length + 2))
              case rel => exact ⟨_, _, _, _, rfl, rfl, HI4, HJ4⟩
              case measure => exact HGN.out
            · gi_wp2
              refine bodyPost_ret (results_none rfl _ _ _) rfl ?_
              exact ⟨⟨_, rfl⟩, .inr ⟨_, by rw [HLN.out]; exact HPR.out, hJx3⟩⟩
  · gi_wp2
    refine bodyPost_ret (results_none rfl _ _ _) rfl ?_
    exact ⟨⟨_, rfl⟩, .inr ⟨_, by simp, hJx1⟩⟩
end Go.Proofs.YtoegdmpmagbaiaaDoor
