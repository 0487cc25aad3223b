/- word.Of: plain parts. -/
import Derived.Test.YtckmmihbipmkcaaWo1
namespace Go.Proofs.Ytckmmihbipmkcaa
open Go.RowKit Go.Sort Go.Lib Go.Shelf

theorem elemEv : ElemT Try.prog 22 32 3 40 := ElemT.mk (z := .agg #[.int .u64 0, .int .i64 0, .slice none 0 0]) Try.underlying22 (by kernel_rfl) (by kernel_rfl) (by decide)
theorem own_shape {w : World} {base e size n c : Nat} {A : Option Addr} {xs : List Value} (h : w.ownsRow base e size (.slice A n c) n xs) {a : Addr} (hA : A = some a) : ∃ g, A = some ⟨g, 0, none⟩ := by
  rcases h.2 with ⟨hv, _⟩ | ⟨g, cap, cur, hv, _⟩
  · simp only [Value.slice.injEq] at hv
    rw [hv.1] at hA
    cases hA
  · simp only [Value.slice.injEq] at hv
    exact ⟨g, hv.1⟩
/-- Events in memory, with their propositions. -/
structure ESl (w : World) (A : Option Addr) (c : Nat) (es : List Ev) : Prop where
  sl : Sl w 3 A es.length c (es.flatMap evc)
  inn : ∀ e ∈ es, Sl w 2 e.A e.l.length e.c (e.l.flatMap pcs)
theorem ESl.pure {w w' : World} {A : Option Addr} {c : Nat} {es : List Ev} (h : ESl w A c es) (hf : Fr Nob w w') : ESl w' A c es := ⟨h.sl.pure hf, fun p hp => (h.inn p hp).pure hf⟩
theorem ev_at {w : World} {A : Option Addr} {c n : Nat} {es : List Ev} (hn : n = es.length) (h : Sl w 3 A n c (es.flatMap evc)) {k : Nat} (hk : k < es.length) : ∃ b off, A = some ⟨b, off, none⟩ ∧ b < w.heap.size ∧ w.cell? ⟨b, off + k * 3, none⟩ = some (.int .u64 es[k].s) ∧ w.cell? ⟨b, off + k * 3 + 1, none⟩ = some (.int .i64 es[k].t) ∧ w.cell? ⟨b, off + k * 3 + 2, none⟩ = some (.slice es[k].A es[k].l.length es[k].c) := by
  subst hn
  obtain ⟨b, off, hA, hb, hc⟩ := Sl.row (size := 3) evc_len h hk
  exact ⟨b, off, hA, hb, by simpa using hc 0 _ rfl, by simpa [Nat.add_assoc] using hc 1 _ rfl, by simpa [Nat.add_assoc] using hc 2 _ rfl⟩
def NmE (es : List Ev) : Prop := ∀ e ∈ es, ∀ x ∈ e.l, x.name.size ≤ 9223372036854775807
def Ev.pt (e : Ev) : Pt := (e.t, e.l)
def goodV (e : Ev) : Bool := goodE e.pt
def fsel (es : List Ev) (k : Nat) : List Ev := (es.take k).filter goodV
theorem fsel_yes {es : List Ev} {k : Nat} (hk : k < es.length) (h : goodV es[k] = true) : fsel es (k + 1) = fsel es k ++ [es[k]] := by
  unfold fsel; rw [List.take_succ_eq_append_getElem hk, List.filter_append]; simp [h]
theorem fsel_no {es : List Ev} {k : Nat} (hk : k < es.length) (h : goodV es[k] = false) : fsel es (k + 1) = fsel es k := by
  unfold fsel; rw [List.take_succ_eq_append_getElem hk, List.filter_append]; simp [h]
theorem fsel_len (es : List Ev) (k : Nat) : (fsel es k).length ≤ k := by
  unfold fsel
  have h1 := List.length_filter_le goodV (es.take k)
  rw [List.length_take] at h1
  omega
theorem fsel_all (es : List Ev) : fsel es es.length = es.filter goodV := by unfold fsel; rw [List.take_length]
/-- The propositions of a stretch of events. -/
def segL (gs : List Ev) (k j : Nat) : List PP := ((gs.take j).drop k).flatMap Ev.l
theorem segL_self (gs : List Ev) (k : Nat) : segL gs k k = [] := by
  unfold segL
  rw [List.drop_of_length_le (by rw [List.length_take]; omega)]; rfl
theorem segL_snoc {gs : List Ev} {k j : Nat} (hk : k ≤ j) (hj : j < gs.length) : segL gs k (j + 1) = segL gs k j ++ gs[j].l := by
  unfold segL
  rw [List.take_succ_eq_append_getElem hj, List.drop_append_of_le_length (by rw [List.length_take]; omega), List.flatMap_append]
  simp
/-- How far the points are made. -/
structure OfR (w : World) (gs : List Ev) (k : Nat) (A : Option Addr) (c q : Nat) (qs : List Pn) (wr : World) : Prop where
  len : q = qs.length
  lek : q ≤ k
  fr : Fr Nob w wr
  own : wr.ownsRow w.heap.size 41 2 (.slice A q c) q (qs.flatMap pnc)
  inn : ∀ p ∈ qs, Sl wr 2 p.A p.l.length p.c (p.l.flatMap pcs) ∧ ∀ b o, p.A = some ⟨b, o, none⟩ → w.heap.size ≤ b ∧ Pb wr b ∧ ∀ g o', A = some ⟨g, o', none⟩ → b ≠ g
  word : IsWord ((gs.take k).map Ev.pt) (pts qs)
  brk : ∀ i j, i < k → k ≤ j → (hi : i < gs.length) → (hj : j < gs.length) → gs[i].t < gs[j].t
theorem OfR.start (w : World) (gs : List Ev) : OfR w gs 0 none 0 0 [] w :=
  ⟨rfl, Nat.le_refl _, Fr.refl _ _, World.ownsRow_nil _ _ _ _, (fun p hp => by cases hp), IsWord.nil, fun i j h => by omega⟩
/-- How far the propositions of one point are. -/
structure PrR (wr : World) (gs : List Ev) (at_ : Int) (k j : Nat) (B : Option Addr) (d r : Nat) (w' : World) : Prop where
  len : r = (segL gs k j).length
  few : r ≤ (j - k) * 100
  fr : Fr Nob wr w'
  own : w'.ownsRow wr.heap.size 51 2 (.slice B r d) r ((segL gs k j).flatMap pcs)
  same : ∀ i, k ≤ i → i < j → (hi : i < gs.length) → gs[i].t = at_
theorem PrR.start (wr : World) (gs : List Ev) (t : Int) (k : Nat) : PrR wr gs t k k none 0 0 wr :=
  ⟨by rw [segL_self]; rfl, Nat.zero_le _, Fr.refl _ _, by rw [segL_self]; exact World.ownsRow_nil _ _ _ _, fun i h1 h2 => by omega⟩
theorem PrR.next {wr w' w7 : World} {gs : List Ev} {t : Int} {k j : Nat} {B B' : Option Addr} {d d' r n : Nat} (h : PrR wr gs t k j B d r w') (hk : k ≤ j) (hj : j < gs.length) (ht : gs[j].t = t) (hl : gs[j].l.length ≤ 100) (hn : n = gs[j].l.length)
    (hown : w7.ownsRow wr.heap.size 51 2 (.slice B' (r + n) d') (r + n) ((segL gs k j).flatMap pcs ++ gs[j].l.flatMap pcs)) (hg : w'.grownBy w7 (B.map (·.block))) : PrR wr gs t k (j + 1) B' d' (r + n) w7 := by
  refine ⟨?_, ?_, ?_, ?_, fun i h1 h2 hi => ?_⟩
  · rw [segL_snoc hk hj, List.length_append, h.len, hn]
  · have := h.few
    have e : (j + 1 - k) * 100 = (j - k) * 100 + 100 := by omega
    omega
  · exact h.fr.grown hg (fun q e hlt => by have := own_base h.own q e; omega)
  · rw [segL_snoc hk hj, List.flatMap_append]; exact hown
  · rcases Nat.lt_succ_iff_lt_or_eq.1 h2 with h3 | h3
    · exact h.same i h1 h3 hi
    · subst h3; exact ht
theorem take_seg (gs : List Ev) {k j : Nat} (hk : k ≤ j) : gs.take j = gs.take k ++ (gs.take j).drop k := by
  have := (List.take_append_drop k (gs.take j)).symm
  rwa [List.take_take, Nat.min_eq_left hk] at this
theorem Blk_far {A : Option Addr} {N : Nat} (h : ∀ q, A.map (·.block) = some q → N ≤ q) : ∀ g o', A = some ⟨g, o', none⟩ → N ≤ g := fun g o' e => h g (by rw [e]; rfl)
/-- One more point. -/
theorem OfR.next {w wr w' w8 : World} {gs : List Ev} {k j : Nat} {A A8 B : Option Addr} {c c8 q d r : Nat} {qs : List Pn} (h : OfR w gs k A c q qs wr) (hkj : k < j) (hj : j ≤ gs.length) (hkl : k < gs.length)
    (P : PrR wr gs gs[k].t k j B d r w') (hup : gs.Pairwise fun x y => x.t ≤ y.t) (hgood : ∀ g ∈ gs, goodV g = true) (hstop : ∀ hj : j < gs.length, gs[j].t ≠ gs[k].t)
    {D : Option Addr} {f : Nat} {w6 : World} (h6 : Fr Nob w' w6) (hD : Sl w6 2 D (lof (segL gs k j)).length f ((lof (segL gs k j)).flatMap pcs)) (hDn : ∀ b o, D = some ⟨b, o, none⟩ → w'.heap.size ≤ b ∧ Pb w6 b)
    {t : TypeId} {cs : Array Value} (hown : w8.ownsRow w.heap.size 41 2 (.slice A8 (q + 1) c8) (q + 1) (qs.flatMap pnc ++ pnc ⟨gs[k].t, D, f, lof (segL gs k j)⟩)) (hg : (w6.alloc (.cells cs t)).grownBy w8 (A.map (·.block))) (hli : Lies A8 A (w6.alloc (.cells cs t)).heap.size) :
    OfR w gs j A8 c8 (q + 1) (qs ++ [⟨gs[k].t, D, f, lof (segL gs k j)⟩]) w8 := by
  have hww := h.fr.size
  have hw' := P.fr.size
  have h6s := h6.size
  have hA : ∀ q, A.map (·.block) = some q → w.heap.size ≤ q := own_base h.own
  have hAlt : ∀ q, A.map (·.block) = some q → q < wr.heap.size := fun q e => by
    refine (h.own.lt q ?_).2
    cases A with
    | none => cases e
    | some a => exact e
  have f6 : Fr Nob w w6 := (h.fr.call P.fr (fun _ h _ => h)).call h6 (fun _ h _ => h)
  have f8 : Fr Nob w w8 := (f6.alloc _).grown hg (fun q e hlt => by have := hA q e; omega)
  have keep : ∀ {W : World} {X : Option Addr} {n c : Nat} {xs : List Value}, Sl W 2 X n c xs → Fr Nob W w6 → (∀ b o, X = some ⟨b, o, none⟩ → ∀ g, A.map (·.block) = some g → b ≠ g) → Sl w8 2 X n c xs := fun hs hf hX => by
    have s6 := (hs.pure hf).alloc (.cells cs t)
    refine s6.fr (S := fun i => A.map (·.block) = some i) ((Fr.refl _ _).grown hg (fun q e _ => e)) fun b o e hn hb => ?_
    exact hX b o e b hb rfl
  have hA8 : ∀ b, b < w6.heap.size → (∀ g, A.map (·.block) = some g → b ≠ g) → ∀ g o', A8 = some ⟨g, o', none⟩ → b ≠ g := fun b hb hX g o' e => by
    rcases hli with h1 | h1
    · rw [e] at h1
      exact hX g h1.symm
    · rw [e] at h1
      have h2 : g = (w6.alloc (.cells cs t)).heap.size := by simpa using h1
      have h3 : (w6.alloc (.cells cs t)).heap.size = w6.heap.size + 1 := by simp
      omega
  have kp : ∀ b, Pb w6 b → (∀ g, A.map (·.block) = some g → b ≠ g) → Pb w8 b := fun b hb hX => by
    refine (hb.alloc (.cells cs t)).fr (S := fun i => A.map (·.block) = some i) ((Fr.refl _ _).grown hg (fun q e _ => e)) fun hb2 => hX b hb2 rfl
  have s8 : w6.heap.size ≤ w8.heap.size := by
    have h2 := hg.size
    have h3 : (w6.alloc (.cells cs t)).heap.size = w6.heap.size + 1 := by simp
    omega
  refine ⟨by rw [h.len]; simp, by have := h.lek; omega, f8, ?_, ?_, ?_, ?_⟩
  · rw [List.flatMap_append]; simpa using hown
  · intro p hp
    rcases List.mem_append.1 hp with hp | hp
    · obtain ⟨h1, h2⟩ := h.inn p hp
      have hX : ∀ b o, p.A = some ⟨b, o, none⟩ → ∀ g, A.map (·.block) = some g → b ≠ g := fun b o e g hg => by
        cases hA' : A with
        | none => rw [hA'] at hg; cases hg
        | some a =>
          obtain ⟨ab, ao, an⟩ := a
          have hab : ab = g := by rw [hA'] at hg; simpa using hg
          obtain ⟨g2, ea⟩ := own_shape h.own hA'
          have := (h2 b o e).2.2 g2 0 ea
          rw [ea] at hg
          have : g2 = g := by simpa using hg
          omega
      refine ⟨keep h1 ((P.fr.call h6 (fun _ h _ => h))) hX, fun b o e => ?_⟩
      obtain ⟨h3, h4, h5⟩ := h2 b o e
      have h46 : Pb w6 b := (h4.fr P.fr (fun e => e)).fr h6 (fun e => e)
      exact ⟨h3, kp b h46 (hX b o e), hA8 b h46.lt (hX b o e)⟩
    · rw [List.mem_singleton] at hp
      subst hp
      have hX : ∀ b o, D = some ⟨b, o, none⟩ → ∀ g, A.map (·.block) = some g → b ≠ g := fun b o e g hg => by
        have := (hDn b o e).1
        have := hAlt g hg
        omega
      refine ⟨keep hD (Fr.refl _ _) hX, fun b o e => ?_⟩
      obtain ⟨hb, hb6⟩ := hDn b o e
      exact ⟨by omega, kp b hb6 (hX b o e), hA8 b hb6.lt (hX b o e)⟩
  · have hG := IsWord.group (E := (gs.take k).map Ev.pt) (G := ((gs.take j).drop k).map Ev.pt) (t := gs[k].t) h.word ?_ ?_ ?_
    · rw [← List.map_append, ← take_seg gs (by omega)] at hG
      have e : pts (qs ++ [⟨gs[k].t, D, f, lof (segL gs k j)⟩]) = pts qs ++ [(gs[k].t, lof ((((gs.take j).drop k).map Ev.pt).flatMap fun g => g.2))] := by
        unfold pts; rw [List.map_append, List.flatMap_map]; rfl
      rw [e]; exact hG
    · intro e he
      obtain ⟨x, hx, rfl⟩ := List.mem_map.1 he
      obtain ⟨i, hi, rfl⟩ := List.getElem_of_mem hx
      rw [List.length_take] at hi
      rw [List.getElem_take]
      exact h.brk i k (by omega) (Nat.le_refl _) (by omega) hkl
    · intro e he
      obtain ⟨x, hx, rfl⟩ := List.mem_map.1 he
      obtain ⟨i, hi, rfl⟩ := List.getElem_of_mem hx
      rw [List.length_drop, List.length_take] at hi
      rw [List.getElem_drop, List.getElem_take]
      exact ⟨P.same (k + i) (by omega) (by omega) (by omega), hgood _ (List.getElem_mem _)⟩
    · intro e
      have := congrArg List.length e
      rw [List.length_map, List.length_drop, List.length_take] at this
      simp at this
      omega
  · intro i j' hi hj' hil hjl
    have hup' := fun a b (hab : a < b) (hb : b < gs.length) => List.pairwise_iff_getElem.1 hup a b (by omega) hb hab
    have h1 : gs[i].t ≤ gs[k].t := by
      rcases Nat.lt_or_ge i k with h2 | h2
      · have := h.brk i k h2 (Nat.le_refl _) hil hkl; omega
      · have := P.same i h2 hi hil; omega
    have hjl2 : j < gs.length := by omega
    have h2 : gs[k].t ≤ gs[j].t := hup' k j hkj hjl2
    have h3 := hstop hjl2
    have h4 : gs[j].t ≤ gs[j'].t := by
      rcases Nat.lt_or_ge j j' with h5 | h5
      · exact hup' j j' h5 hjl
      · obtain rfl : j = j' := by omega
        exact Int.le_refl _
    omega
end Go.Proofs.Ytckmmihbipmkcaa
