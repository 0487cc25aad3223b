/- Events in memory (for a seat without the stable sort). -/
import Derived.Test.YtoegdmpmagbaiaaGreatDoorQW6
import Derived.Test.YtoegdmpmagbaiaaGreatDoorQWo0
import Derived.Test.YtoegdmpmagbaiaaGreatDoorKR
namespace Go.Proofs.YtoegdmpmagbaiaaGreatDoor
open Go.RowKit Go.Sort Go.Lib

structure Ev where
  s : Int
  t : Int
  A : Option Addr
  c : Nat
  l : List PP
instance : Inhabited Ev := ⟨⟨0, 0, none, 0, []⟩⟩
def evc (e : Ev) : List Value := [.int .u64 e.s, .int .i64 e.t, .slice e.A e.l.length e.c]
theorem evc_len (x : Ev) : (evc x).length = 3 := rfl
/-- Events in memory, with their propositions. -/
structure ESl (w : World) (A : Option Addr) (c : Nat) (es : List Ev) : Prop where
  sl : Sl w 3 A es.length c (es.flatMap evc)
  inn : ∀ e ∈ es, Sl w 2 e.A e.l.length e.c (e.l.flatMap pcs)
theorem ESl.pure {w w' : World} {A : Option Addr} {c : Nat} {es : List Ev} (h : ESl w A c es) (hf : Fr Nob w w') : ESl w' A c es := ⟨h.sl.pure hf, fun p hp => (h.inn p hp).pure hf⟩
theorem ev_at {w : World} {A : Option Addr} {c n : Nat} {es : List Ev} (hn : n = es.length) (h : Sl w 3 A n c (es.flatMap evc)) {k : Nat} (hk : k < es.length) : ∃ b off, A = some ⟨b, off, none⟩ ∧ b < w.heap.size ∧ w.cell? ⟨b, off + k * 3, none⟩ = some (.int .u64 es[k].s) ∧ w.cell? ⟨b, off + k * 3 + 1, none⟩ = some (.int .i64 es[k].t) ∧ w.cell? ⟨b, off + k * 3 + 2, none⟩ = some (.slice es[k].A es[k].l.length es[k].c) := by
  subst hn
  obtain ⟨b, off, hA, hb, hc⟩ := Sl.row (size := 3) evc_len h hk
  exact ⟨b, off, hA, hb, by simpa using hc 0 _ rfl, by simpa [Nat.add_assoc] using hc 1 _ rfl, by simpa [Nat.add_assoc] using hc 2 _ rfl⟩
def Ev.pt (e : Ev) : Pt := (e.t, e.l)
end Go.Proofs.YtoegdmpmagbaiaaGreatDoor

/- A word with events later than a mark: plain laws. -/
namespace Go.Proofs.YtoegdmpmagbaiaaGreatDoor
open Go.RowKit Go.Lib

/-- A word with the events that are later than a mark. -/
def moreW (W : List Pt) (mark : Int) (es : List Ev) : List Pt := es.foldl (fun V e => if mark < e.t then (putW V e.t e.l).1 else V) W
theorem moreW_nil (W : List Pt) (mark : Int) : moreW W mark [] = W := rfl
theorem moreW_snoc (W : List Pt) (mark : Int) (es : List Ev) (e : Ev) : moreW W mark (es ++ [e]) = if mark < e.t then (putW (moreW W mark es) e.t e.l).1 else moreW W mark es := by
  unfold moreW; rw [List.foldl_append]; rfl
theorem moreW_yes {W : List Pt} {mark : Int} {es : List Ev} {k : Nat} (hk : k < es.length) (h : mark < es[k].t) : moreW W mark (es.take (k + 1)) = (putW (moreW W mark (es.take k)) es[k].t es[k].l).1 := by
  rw [List.take_succ_eq_append_getElem hk, moreW_snoc, if_pos h]
theorem moreW_no {W : List Pt} {mark : Int} {es : List Ev} {k : Nat} (hk : k < es.length) (h : ¬ mark < es[k].t) : moreW W mark (es.take (k + 1)) = moreW W mark (es.take k) := by
  rw [List.take_succ_eq_append_getElem hk, moreW_snoc, if_neg h]
/-- A word, and events later than a mark that were put into it. -/
def LateW (W V : List Pt) (mark : Int) : Prop := ∃ F : List Pt, (∀ e ∈ F, mark < e.1 ∧ e.1 ≤ last63) ∧ IsWord (W ++ F) V
theorem pt_uniq {W : List Pt} (h : W.Pairwise fun p q => p.1 < q.1) {p q : Pt} (hp : p ∈ W) (hq : q ∈ W) (e : p.1 = q.1) : p = q := by
  obtain ⟨i, hi, rfl⟩ := List.getElem_of_mem hp
  obtain ⟨j, hj, rfl⟩ := List.getElem_of_mem hq
  have h' := List.pairwise_iff_getElem.1 h
  rcases Nat.lt_trichotomy i j with h1 | h1 | h1
  · have := h' i j hi hj h1; omega
  · subst h1; rfl
  · have := h' j i hj hi h1; omega
theorem self_word {W : List Pt} (hr : wRightB W = true) : IsWord W W := by
  obtain ⟨h1, h2⟩ := (wRight_iff W).1 hr
  have hg : ∀ p ∈ W, goodE p = true := fun p hp => (goodE_iff p).2 ⟨(h2 p hp).1, ((rightB_iff _).1 (h2 p hp).2).2⟩
  exact ⟨h1, fun p hp => ((rightB_iff _).1 (h2 p hp).2).1, fun p hp x => ⟨fun hx => ⟨p, hp, hg p hp, rfl, hx⟩, fun ⟨e, he, _, h3, hx⟩ => by rw [← pt_uniq h1 he hp h3]; exact hx⟩,
    fun p hp => ⟨p, hp, hg p hp, rfl⟩, fun e he _ => ⟨e, he, rfl⟩⟩
theorem LateW.self {W : List Pt} (hr : wRightB W = true) (mark : Int) : LateW W W mark := ⟨[], (fun _ h => by cases h), by rw [List.append_nil]; exact self_word hr⟩
theorem LateW.put {W V : List Pt} {mark : Int} (h : LateW W V mark) {t : Int} (l : List PP) (ht : mark < t) (h63 : t ≤ last63) : LateW W (putW V t l).1 mark := by
  obtain ⟨F, hF, hw⟩ := h
  refine ⟨F ++ [(t, l)], fun e he => ?_, by rw [← List.append_assoc]; exact hw.put t l⟩
  rw [List.mem_append, List.mem_singleton] at he
  rcases he with he | rfl
  · exact hF e he
  · exact ⟨ht, h63⟩
theorem LateW.right {W V : List Pt} {mark : Int} (h : LateW W V mark) : wRightB V = true := let ⟨_, _, hw⟩ := h; hw.right
theorem late_more {W : List Pt} {mark : Int} (hr : wRightB W = true) (es : List Ev) (h63 : ∀ e ∈ es, e.t ≤ last63) : LateW W (moreW W mark es) mark := by
  suffices H : ∀ (es : List Ev) (V : List Pt), (∀ e ∈ es, e.t ≤ last63) → LateW W V mark → LateW W (es.foldl (fun V e => if mark < e.t then (putW V e.t e.l).1 else V) V) mark from H es W h63 (LateW.self hr mark)
  intro es
  induction es with
  | nil => exact fun V _ h => h
  | cons e es ih =>
    intro V h6 h
    rw [List.foldl_cons]
    refine ih _ (fun x hx => h6 x (List.mem_cons_of_mem _ hx)) ?_
    split
    · rename_i ht
      exact h.put e.l ht (h6 e List.mem_cons_self)
    · exact h
theorem tAt_get {W : List Pt} {i : Nat} (hi : i < W.length) : tAt W i = W[i].1 := by
  unfold tAt; rw [List.getD_eq_getElem?_getD, List.getElem?_eq_getElem hi]; rfl
theorem pAt_get {W : List Pt} {i : Nat} (hi : i < W.length) : pAt W i = W[i].2 := by
  unfold pAt; rw [List.getD_eq_getElem?_getD, List.getElem?_eq_getElem hi]; rfl
theorem rise_pts {W : List Pt} (hr : wRightB W = true) (h63 : ∀ p ∈ W, p.1 ≤ last63) : Rise W := by
  obtain ⟨h1, h2⟩ := (wRight_iff W).1 hr
  refine ⟨fun i j hij hj => ?_, fun i hi => ?_, fun i hi => ?_⟩
  · rw [tAt_get (by omega), tAt_get hj]; exact List.pairwise_iff_getElem.1 h1 i j (by omega) hj hij
  · rw [tAt_get hi]; exact (h2 _ (List.getElem_mem hi)).1
  · rw [tAt_get hi]; exact h63 _ (List.getElem_mem hi)
theorem LateW.hi {W V : List Pt} {mark : Int} (h : LateW W V mark) (h63 : ∀ p ∈ W, p.1 ≤ last63) : ∀ p ∈ V, p.1 ≤ last63 := fun p hp => by
  obtain ⟨F, hF, hw⟩ := h
  obtain ⟨e, he, _, h1⟩ := hw.src p hp
  rw [List.mem_append] at he
  rw [← h1]
  rcases he with he | he
  · exact h63 e he
  · exact (hF e he).2
theorem fromI_at {V : List Pt} (hr : wRightB V = true) {k : Nat} (hk : k < V.length) : fromI V V[k].1 = k :=
  fromI_eq (Nat.le_of_lt hk) (fun _ _ hjk => wRight_lt hr hjk hk) (fun _ => Int.lt_irrefl _)
/-- Where each point stands in the word with later events. -/
theorem LateW.ext {W V : List Pt} {mark : Int} (h : LateW W V mark) (hr : wRightB W = true) (h63 : ∀ p ∈ W, p.1 ≤ last63) : Ext W V mark (fun i => fromI V (tAt W i)) := by
  have hR := h.right
  have hV := rise_pts hR (h.hi h63)
  obtain ⟨F, hF, hw⟩ := h
  obtain ⟨h1, h2⟩ := (wRight_iff W).1 hr
  have hg : ∀ p ∈ W, goodE p = true := fun p hp => (goodE_iff p).2 ⟨(h2 p hp).1, ((rightB_iff _).1 (h2 p hp).2).2⟩
  have hin : ∀ i, (hi : i < W.length) → ∃ k, ∃ hk : k < V.length, fromI V (tAt W i) = k ∧ V[k].1 = W[i].1 := fun i hi => by
    obtain ⟨p, hp, e⟩ := hw.has W[i] (List.mem_append_left _ (List.getElem_mem hi)) (hg _ (List.getElem_mem hi))
    obtain ⟨k, hk, rfl⟩ := List.getElem_of_mem hp
    exact ⟨k, hk, by rw [tAt_get hi, ← e]; exact fromI_at hR hk, e⟩
  have hsub : ∀ i, (hi : i < W.length) → ∀ k, (hk : k < V.length) → V[k].1 = W[i].1 → ∀ x ∈ W[i].2, x ∈ V[k].2 := fun i hi k hk e x hx =>
    (hw.mem V[k] (List.getElem_mem hk) x).2 ⟨W[i], List.mem_append_left _ (List.getElem_mem hi), hg _ (List.getElem_mem hi), e.symm, hx⟩
  refine ⟨rise_pts hr h63, hV, fun i hi => ?_, fun i hi => ?_, fun k hk => ?_, fun i hi n op v hh => ?_, fun i hi hm n op v hh => ?_⟩
  · obtain ⟨k, hk, e, _⟩ := hin i hi
    rw [e]; exact hk
  · obtain ⟨k, hk, e, h3⟩ := hin i hi
    rw [e, tAt_get hk, tAt_get hi]; exact h3
  · obtain ⟨e, he, _, h3⟩ := hw.src V[k] (List.getElem_mem hk)
    rw [List.mem_append] at he
    rcases he with he | he
    · obtain ⟨i, hi, rfl⟩ := List.getElem_of_mem he
      exact .inl ⟨i, hi, by rw [tAt_get hi, h3]; exact fromI_at hR hk⟩
    · right
      rw [tAt_get hk, ← h3]; exact (hF e he).1
  · obtain ⟨k, hk, e, h3⟩ := hin i hi
    rw [e, pAt_get hk]
    rw [pAt_get hi] at hh
    unfold holdsB at *
    rw [List.any_eq_true] at *
    obtain ⟨x, hx, h4⟩ := hh
    exact ⟨x, hsub i hi k hk h3 x hx, h4⟩
  · obtain ⟨k, hk, e, h3⟩ := hin i hi
    rw [e, pAt_get hk] at hh
    rw [pAt_get hi]
    unfold holdsB at *
    rw [List.any_eq_true] at *
    obtain ⟨x, hx, h4⟩ := hh
    obtain ⟨d, hd, _, h5, h6⟩ := (hw.mem V[k] (List.getElem_mem hk) x).1 hx
    rw [List.mem_append] at hd
    rcases hd with hd | hd
    · have := pt_uniq h1 hd (List.getElem_mem hi) (by rw [h5, h3])
      exact ⟨x, by rw [← this]; exact h6, h4⟩
    · have h7 := (hF d hd).1
      rw [tAt_get hi] at hm
      omega
/-- Points are few, with few propositions of short names. -/
def BndW (V : List Pt) (n m : Nat) : Prop := V.length ≤ n ∧ ∀ p ∈ V, p.2.length ≤ m ∧ ∀ x ∈ p.2, x.name.size ≤ 40
theorem lof_bnd {a b : List PP} {m : Nat} (ha : a.length ≤ m) (hb : b.length ≤ 10) (hx : ∀ x ∈ a, x.name.size ≤ 40) (hy : ∀ x ∈ b, x.name.size ≤ 40) : (lof (a ++ b)).length ≤ m + 10 ∧ ∀ x ∈ lof (a ++ b), x.name.size ≤ 40 := by
  refine ⟨by have := lof_len (a ++ b); rw [List.length_append] at this; omega, fun x h => ?_⟩
  rw [lof_mem, List.mem_append] at h
  rcases h with h | h
  · exact hx x h
  · exact hy x h
theorem BndW.put {V : List Pt} {n m : Nat} (h : BndW V n m) (t : Int) {l : List PP} (hl : l.length ≤ 10) (hs : ∀ x ∈ l, x.name.size ≤ 40) : BndW (putW V t l).1 (n + 1) (m + 10) := by
  have hw : BndW V (n + 1) (m + 10) := ⟨by have := h.1; omega, fun p hp => ⟨by have := (h.2 p hp).1; omega, (h.2 p hp).2⟩⟩
  unfold putW
  split
  · exact ⟨Nat.zero_le _, fun _ h => by cases h⟩
  · split
    · exact hw
    · split
      · rename_i hx
        obtain ⟨hk, ht⟩ := hx
        refine ⟨by dsimp only; rw [List.length_set]; exact hw.1, fun p hp => ?_⟩
        dsimp only at hp
        rcases List.mem_or_eq_of_mem_set hp with hp | rfl
        · exact hw.2 p hp
        · have := h.2 _ (List.getElem_mem hk)
          exact lof_bnd this.1 hl this.2 hs
      · refine ⟨by dsimp only; rw [List.length_append, List.length_cons, List.length_take, List.length_drop]; have := h.1; have := fromI_le V t; omega, fun p hp => ?_⟩
        dsimp only at hp
        rw [List.mem_append, List.mem_cons] at hp
        rcases hp with hp | rfl | hp
        · exact hw.2 p (List.mem_of_mem_take hp)
        · have := lof_bnd (a := []) (m := m) (Nat.zero_le _) hl (fun _ h => by cases h) hs
          rwa [List.nil_append] at this
        · exact hw.2 p (List.mem_of_mem_drop hp)
/-- What is known at a point stays so with later events. -/
theorem row_more {W V : List Pt} {mark : Int} (h : LateW W V mark) (hr : wRightB W = true) (h63 : ∀ p ∈ W, p.1 ≤ last63) (s : S1) {i : Nat} (hi : i < W.length) : Kn (xAt (rowS W mark s) i) (xAt (rowS V mark s) (fromI V (tAt W i))) :=
  rowS_grow (h.ext hr h63) (Int.le_refl _) s hi
end Go.Proofs.YtoegdmpmagbaiaaGreatDoor
