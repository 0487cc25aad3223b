/- A range over a function whose iterator keeps cells of its own: what the caller owes. (The library's laws ask that an iterator turn no cells.) -/
import Derived.Test.YtoegdmpmagbaiaaDoorMem
import Derived.RangeFuncNested
import Derived.RangeFuncBound
import Derived.RangeFuncCalls
import Derived.RangeFuncLeaves
import Derived.Shelf.Abstract
import Derived.OwnWalkIn
import Derived.TacticsInMore
import Derived.LoopNIn
import Derived.LoopIn
namespace Go.Proofs.YtoegdmpmagbaiaaDoor
open Go.RowKit Go.Shelf

/-- J says nothing of what is laid from block B on. -/
def Far {β : Type} (B : Nat) (J : β → World → Prop) : Prop := ∀ s W W' row, J s W → W.grownBy W' row → (∀ r, row = some r → B ≤ r) → J s W'
theorem Far.put {β : Type} {B : Nat} {J : β → World → Prop} (h : Far B J) {s : β} {W : World} {l : Nat} (o : Obj) (hs : J s W) (hl : B ≤ l) : J s (W.putObj l o) :=
  h s W _ (some l) hs (grownBy_putObj' W l o) (fun r e => by cases e; exact hl)
theorem Far.alloc {β : Type} {B : Nat} {J : β → World → Prop} (h : Far B J) {s : β} {W : World} (o : Obj) (hs : J s W) : J s (W.alloc o) :=
  h s W _ none hs (World.grownBy_alloc W o none) (fun r e => by cases e)
theorem Far.and {β : Type} {B : Nat} {J K : β → World → Prop} (h : Far B J) (k : Far B K) : Far B (fun s W => J s W ∧ K s W) := fun s W W' row hs hg hr => ⟨h s W W' row hs.1 hg hr, k s W W' row hs.2 hg hr⟩
theorem Far.mono {β : Type} {B C : Nat} {J : β → World → Prop} (h : Far B J) (hc : B ≤ C) : Far C J := fun s W W' row hs hg hr => h s W W' row hs hg fun r e => Nat.le_trans hc (hr r e)
theorem far_block {β : Type} {B k : Nat} {o : Obj} (hk : k < B) : Far B (fun (_ : β) W => W.heap[k]? = some o) := fun _ _ _ _ hs hg hr =>
  (hg.block k (Array.getElem?_eq_some_iff.1 hs).1 (fun e => by have := hr k e.symm; omega)).trans hs
theorem far_below {β : Type} {B m : Nat} {w0 : World} (hm : m ≤ w0.heap.size) (hB : m ≤ B) : Far B (fun (_ : β) W => Below m w0 W) := fun _ _ _ _ hs hg hr =>
  hs.grown hg (Nat.le_trans hm hs.size) (fun k e => Nat.le_trans hB (hr k e))
theorem far_pure {β : Type} {B : Nat} {J : β → Prop} : Far B (fun s _ => J s) := fun _ _ _ _ hs _ _ => hs

/-- What a round keeps: all cells but those of the blocks S. -/
def KpS (S : Nat → Prop) (W W' : World) : Prop := W.heap.size ≤ W'.heap.size ∧ ∀ k o, W.heap[k]? = some o → o.isCells = true → ¬ S k → W'.heap[k]? = some o
theorem KpS.refl (S : Nat → Prop) (W : World) : KpS S W W := ⟨Nat.le_refl _, fun _ _ h _ _ => h⟩
theorem KpS.trans {S : Nat → Prop} {A B C : World} (h : KpS S A B) (k : KpS S B C) : KpS S A C := ⟨Nat.le_trans h.1 k.1, fun i o hi hc hn => k.2 i o (h.2 i o hi hc hn) hc hn⟩
theorem KpS.put {S : Nat → Prop} (W : World) (l : Nat) (o o' : Obj) (h : W.heap[l]? = some o) (hc : o.isCells = false) : KpS S W (W.putObj l o') :=
  ⟨by simp, fun _ q hk hq _ => (World.putObj_heap_other (fun e => by subst e; rw [h] at hk; cases hk; rw [hc] at hq; cases hq)).trans hk⟩
theorem KpS.fr {S : Nat → Prop} {W W' : World} (h : Fr S W W') : KpS S W W' := ⟨h.size, fun k _ hk _ hn => (h.block k (Array.getElem?_eq_some_iff.1 hk).1 hn).trans hk⟩

variable {F : Fence} {n : Nat} {P : Program}
/-- What an iterator owes that may turn cells that it has laid itself. -/
def SeqFar {α : Type} (F : Fence) (n : Nat) (P : Program) (g : Nat) (lb : Array Value) (encs : α → Array Value) (S : Nat → Prop) (xs : List α) (w : World) : Prop :=
  ∀ (l : Nat) (J Jx : List α → World → Prop) (W : World), Below w.heap.size w W → Far W.heap.size J → Far W.heap.size Jx →
    (∀ pre x W1, J pre W1 → pre ++ [x] <+: xs → YieldAt F (n - 1) P l (encs x) W1 fun e W' =>
      (e = .returned (.bool true) ∧ J (pre ++ [x]) W' ∧ KpS S W1 W' ∧ KeepsFrom W.heap.size W1 W') ∨ (e = .returned (.bool false) ∧ Jx (pre ++ [x]) W' ∧ KeepsFrom W.heap.size W1 W')) →
    J [] W →
    CallsIn F n P g (#[.func (.yield l) #[] #[]] ++ lb) W fun e W' => (∃ v, e = .returned v) ∧ (J xs W' ∨ ∃ pre, pre <+: xs ∧ Jx pre W')

theorem range_farG {α : Type} {g : Operand} {ps : Array Tmp} {assign body : Code} {Q : Exit → Act → World → Prop} {a : Act} {w : World}
    (hro : F.round = none) (h1 : 1 ≤ n) {gf : Nat} {lb : Array Value} (hg : a.eval g = .func (.func gf) #[] lb) (hFg : F.fn gf) (eg : ∀ args w, (callFunc gf args).run P w = .ok (.enter gf args) w)
    {encs : α → Array Value} {S : Nat → Prop} {xs : List α} {w0 : World} (hseq : SeqFar F (n - 1) P gf lb encs S xs w0) (hb0 : Below w0.heap.size w0 w) (hps : ∀ x, (encs x).size = ps.size)
    (I : List α → World → Prop) (Ix : Code → List α → World → Prop) (hI : Far w.heap.size I) (hIx : ∀ c, Far w.heap.size (Ix c)) (h0 : I [] w) (a₁ : α → Act)
    (hassign : ∀ (l : Nat) (x : α) (W : World) (K : Act → World → Prop), K (a₁ x) W →
      assign.wpIn (F.inRound l) (n - 1 - 1) P (Exit.then K (fun _ _ _ => False)) { tmps := (ps.zip (encs x)).foldl (fun t (p, v) => t.setIfInBounds p v) a.tmps, defers := [] } W)
    (hbody : ∀ (l : Nat) (pre : List α) (x : α) (W : World), I pre W → pre ++ [x] <+: xs → body.wpIn (F.inRound l) (n - 1 - 1) P (ownPostG w.heap.size (KpS S) I Ix (pre ++ [x]) W) (a₁ x) W)
    (hdone : ∀ (D : Nat) (W : World), w.heap.size ≤ D → I xs W → W.heap[D]? = some (.deferred (some [])) → Q .normal { a with defers := { target := .collected D, args := #[] } :: a.defers } W)
    (hstop : ∀ (D : Nat) (c : Code) (pre : List α) (W : World), w.heap.size ≤ D → pre <+: xs → Ix c pre W → W.heap[D]? = some (.deferred (some [])) → c.wpIn F n P Q { a with defers := { target := .collected D, args := #[] } :: a.defers } W) :
    (Code.rangeFunc g ps assign body).wpIn F n P Q a w := by
  refine wpIn_rangeFunc fun fn hfn => ?_
  rw [hro]
  obtain ⟨B, hB⟩ : ∃ B, w.heap.size = B := ⟨_, rfl⟩
  obtain ⟨rec, hrec⟩ : ∃ rec : LoopState → Option Code → Loop, rec = fun st pe => { state := st, pending := pe, fn, tmps := a.tmps, params := ps, assign, body, defers := B } := ⟨_, rfl⟩
  obtain ⟨W1, hW1⟩ : ∃ W1, (w.alloc (.deferred (some []))).alloc (.loop (rec .ready none)) = W1 := ⟨_, rfl⟩
  have hsz : W1.heap.size = B + 2 := by rw [← hW1]; simp [hB]
  have hL1 : W1.heap[B + 1]? = some (.loop (rec .ready none)) := by
    have := World.alloc_heap_new (w.alloc (.deferred (some []))) (.loop (rec .ready none))
    rw [World.size_alloc, hB, hW1] at this; exact this
  have hK1 : W1.heap[B]? = some (.deferred (some [])) := by
    have h := World.alloc_heap_new w (.deferred (some []))
    rw [hB] at h
    rw [← hW1]; exact (Below.heap_alloc _ _ B (by simp [hB])).trans h
  rw [hB] at hI hIx
  have hI1 : I [] W1 := by rw [← hW1]; exact hI.alloc _ (hI.alloc _ h0)
  have hb1 : Below w0.heap.size w0 W1 := by
    have := hb0.size
    rw [← hW1]; exact (hb0.alloc (by omega) _).alloc (by simp; omega) _
  refine ⟨B + 1, [{ target := .collected B, args := #[] }], W1, { target := .fn (.func gf) lb, args := #[.func (.yield (B + 1)) #[] #[]] }, W1, gf,
    #[.func (.yield (B + 1)) #[] #[]] ++ lb, W1, ?_, ?_, ?_, ?_, fun _ => h1, ?_⟩
  · rw [← hW1, hrec, ← hB]; exact run_enterLoop_outer _ _ _ _ _
  · simp only [resolve, hg]
    simp [go_sem]
  · intro f' hf'; simp [Target.leads] at hf'; subst hf'; exact hFg
  · simp [invoke, go_sem, eg]
  let Jb : World → Prop := fun W => W.heap[B]? = some (.deferred (some []))
  refine (hseq (B + 1) (fun pre W => I pre W ∧ W.heap[B + 1]? = some (.loop (rec .ready none)) ∧ Jb W)
    (fun pre W => ∃ c, Ix c pre W ∧ W.heap[B + 1]? = some (.loop (rec .done (some c))) ∧ Jb W) W1 hb1
    ((hI.mono (by omega)).and ((far_block (by omega)).and (far_block (by omega)))) ?_ ?_ ⟨hI1, hL1, hK1⟩).mono ?_
  · rintro s A C row ⟨c, hc, hl, hk⟩ hgr hr
    exact ⟨c, (hIx c).mono (by omega) s A C row hc hgr hr, far_block (β := Unit) (by omega) () A C row hl hgr hr, far_block (β := Unit) (by omega) () A C row hk hgr hr⟩
  · rintro pre x W ⟨hi, hl, hk⟩ hpre
    have hlt : B + 1 < W.heap.size := (Array.getElem?_eq_some_iff.1 hl).1
    have hy := run_yield (P := P) (args := encs x) hl (by rw [hrec]; exact hps x)
    rw [hrec] at hy
    refine ⟨fn, _, assign, body, hy, roundIn_of_wpIn hfn (hassign _ x W _ ⟨_, run_beginRound hl (by rw [hrec]), ?_⟩)⟩
    obtain ⟨W2, hW2⟩ : ∃ W2, W.putObj (B + 1) (.loop { rec .ready none with state := .busy }) = W2 := ⟨_, rfl⟩
    rw [hW2]
    have hl2 : W2.heap[B + 1]? = some (.loop { rec .ready none with state := .busy }) := by rw [← hW2]; exact World.putObj_heap_same hlt
    have hk2 : Jb W2 := by rw [← hW2]; exact (World.putObj_heap_other (by omega)).trans hk
    have hw2 : KpS S W W2 := by rw [← hW2]; exact KpS.put _ _ _ _ hl rfl
    refine wpIn_mono (hbody _ pre x _ (by rw [← hW2]; exact hI.put _ hi (by omega)) hpre) ?_
    have fin : ∀ (jump : Option Code) (W3 : World), KeepsFrom w.heap.size W2 W3 →
        (Instr.endRound (B + 1) jump).run P W3 = .ok (.bool jump.isNone) (W3.putObj (B + 1) (.loop (rec (if jump.isNone then .ready else .done) jump))) ∧
        W3.heap[B + 1]? = some (.loop { rec .ready none with state := .busy }) ∧
        (W3.putObj (B + 1) (.loop (rec (if jump.isNone then .ready else .done) jump))).heap[B + 1]? = some (.loop (rec (if jump.isNone then .ready else .done) jump)) ∧
        Jb (W3.putObj (B + 1) (.loop (rec (if jump.isNone then .ready else .done) jump))) := fun jump W3 hk3 => by
      have hl3 := hk3.same _ _ (by omega) hl2 rfl
      have hr := run_endRound (P := P) jump hl3
      rw [hrec] at hr ⊢
      exact ⟨hr, by rw [hrec] at hl3; exact hl3, World.putObj_heap_same (Array.getElem?_eq_some_iff.1 hl3).1, (World.putObj_heap_other (by omega)).trans (hk3.same _ _ (by omega) hk2 rfl)⟩
    have keep : ∀ (W3 : World) (o : Obj), KeepsFrom w.heap.size W2 W3 → KeepsFrom W1.heap.size W (W3.putObj (B + 1) o) := fun W3 o hk3 => by
      have h1 : KeepsFrom W1.heap.size W W2 := by rw [← hW2]; exact KeepsFrom.of_grownBy (grownBy_putObj' _ _ _) (fun j e => by cases e; omega)
      have h2 : KeepsFrom W1.heap.size W2 W3 := ⟨hk3.size, fun k o hk => hk3.same k o (by omega)⟩
      exact (h1.trans h2).trans (KeepsFrom.of_grownBy (grownBy_putObj' _ _ _) (fun j e => by cases e; omega))
    rintro e a3 W3 hp
    cases e with
    | normal =>
      obtain ⟨hk3, hkp3, hi3⟩ := hp
      obtain ⟨hr, hl3, hl4, hk4⟩ := fin none W3 hk3
      exact ⟨_, _, hr, .inl ⟨rfl, ⟨hI.put _ hi3 (by omega), hl4, hk4⟩, (hw2.trans hkp3).trans (KpS.put _ _ _ _ hl3 rfl), keep _ _ hk3⟩⟩
    | ret =>
      obtain ⟨hk3, hi3⟩ := hp
      obtain ⟨hr, hl3, hl4, hk4⟩ := fin (some .ret) W3 hk3
      exact ⟨_, _, hr, .inr ⟨rfl, ⟨.ret, (hIx _).put _ hi3 (by omega), hl4, hk4⟩, keep _ _ hk3⟩⟩
    | exit id =>
      obtain ⟨hk3, hi3⟩ := hp
      obtain ⟨hr, hl3, hl4, hk4⟩ := fin (some (.exit id)) W3 hk3
      exact ⟨_, _, hr, .inr ⟨rfl, ⟨.exit id, (hIx _).put _ hi3 (by omega), hl4, hk4⟩, keep _ _ hk3⟩⟩
    | goto t =>
      obtain ⟨hk3, hi3⟩ := hp
      obtain ⟨hr, hl3, hl4, hk4⟩ := fin (some (.goto t)) W3 hk3
      exact ⟨_, _, hr, .inr ⟨rfl, ⟨.goto t, (hIx _).put _ hi3 (by omega), hl4, hk4⟩, keep _ _ hk3⟩⟩
    | panic ch => exact hp.elim
    | outgrown => exact hp.elim
  · rintro e W2 ⟨⟨v, rfl⟩, (⟨hi, hl, hk⟩ | ⟨pre, hpre, c, hi, hl, hk⟩)⟩
    · exact ⟨none, _, by have := run_endLoop (P := P) hl (by rw [hrec]; simp); rw [hrec] at this; exact this, hdone B _ (by omega) (hI.put _ hi (by omega)) ((World.putObj_heap_other (by omega)).trans hk)⟩
    · exact ⟨some c, _, by have := run_endLoop (P := P) hl (by rw [hrec]; simp); rw [hrec] at this; exact this, hstop B c pre _ (by omega) hpre ((hIx c).put _ hi (by omega)) ((World.putObj_heap_other (by omega)).trans hk)⟩
theorem range_far {α : Type} {g : Operand} {ps : Array Tmp} {assign body : Code} {Q : Exit → Act → World → Prop} {a : Act} {w : World}
    (hro : F.round = none) (h1 : 1 ≤ n) {gf : Nat} {lb : Array Value} (hg : a.eval g = .func (.func gf) #[] lb) (hFg : F.fn gf) (eg : ∀ args w, (callFunc gf args).run P w = .ok (.enter gf args) w)
    {encs : α → Array Value} {S : Nat → Prop} {xs : List α} {w0 : World} (hseq : SeqFar F (n - 1) P gf lb encs S xs w0) (hb0 : Below w0.heap.size w0 w) (hps : ∀ x, (encs x).size = ps.size)
    (I : List α → World → Prop) (Ix : Code → List α → World → Prop) (hI : Far w.heap.size I) (hIx : ∀ c, Far w.heap.size (Ix c)) (h0 : I [] w) (a₁ : α → Act)
    (hassign : ∀ (l : Nat) (x : α) (W : World) (K : Act → World → Prop), K (a₁ x) W →
      assign.wpIn (F.inRound l) (n - 1 - 1) P (Exit.then K (fun _ _ _ => False)) { tmps := (ps.zip (encs x)).foldl (fun t (p, v) => t.setIfInBounds p v) a.tmps, defers := [] } W)
    (hbody : ∀ (l : Nat) (pre : List α) (x : α) (W : World), I pre W → pre ++ [x] <+: xs → body.wpIn (F.inRound l) (n - 1 - 1) P (ownPostK (KpS S) I Ix (pre ++ [x]) W) (a₁ x) W)
    (hdone : ∀ (D : Nat) (W : World), w.heap.size ≤ D → I xs W → W.heap[D]? = some (.deferred (some [])) → Q .normal { a with defers := { target := .collected D, args := #[] } :: a.defers } W)
    (hstop : ∀ (D : Nat) (c : Code) (pre : List α) (W : World), w.heap.size ≤ D → pre <+: xs → Ix c pre W → W.heap[D]? = some (.deferred (some [])) → c.wpIn F n P Q { a with defers := { target := .collected D, args := #[] } :: a.defers } W) :
    (Code.rangeFunc g ps assign body).wpIn F n P Q a w :=
  range_farG hro h1 hg hFg eg hseq hb0 hps I Ix hI hIx h0 a₁ hassign (fun l pre x W hi hp => wpIn_mono (hbody l pre x W hi hp) ownPostG_of_ownPostK) hdone hstop
end Go.Proofs.YtoegdmpmagbaiaaDoor
