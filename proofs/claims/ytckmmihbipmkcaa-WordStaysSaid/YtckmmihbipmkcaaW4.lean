/- Words: a copy in new memory. -/
import Derived.Test.YtckmmihbipmkcaaW3
import Derived.Test.YtckmmihbipmkcaaSl
import Derived.Laws.CopyOwn
import Derived.Laws.MakeOwn
import Derived.Shelf.Spec.SlicesInsert
namespace Go.Proofs.Ytckmmihbipmkcaa
open Go.RowKit Go.Sort Go.Lib

/-- copy of n elements of k cells. -/
theorem run_copyK {P : Program} (w : World) (dT sT ty elem : TypeId) (k b o n dCap sCap : Nat) (a : Addr) (cs : List Value)
    (hu : P.underlying dT = some (.slice elem)) (hs : (P.info? elem).map (·.size) = some k) (hn : cs.length = n * k)
    (hsrc : ∀ j v, cs[j]? = some v → w.cell? (a.add j) = some v) (hc : ∀ j, j < cs.length → (w.cell? ⟨b, o + j, none⟩).isSome = true) (hf : ∀ j, j < cs.length → w.frozen? ⟨b, o + j, none⟩ = false) (h1 : ∀ v ∈ cs, v.oneCell' = true) :
    (Builtin.copy_ #[dT, sT] ty #[.slice (some ⟨b, o, none⟩) n dCap, .slice (some a) n sCap]).run P w = .ok (goInt n) (w.setCells b o cs) := by
  have hl := run_loadCells_list (P := P) w a cs hsrc
  have hst := run_storeCells_cells (P := P) b o cs 0 w (by simpa using hc) (by simpa using hf) h1
  cases hq : P.info? elem with
  | none => simp [hq] at hs
  | some i =>
    have hi : i.size = k := by simpa [hq] using hs
    simp [Builtin.copy_, run_underlying hu, Builtin.lenOf, Builtin.firstCells, sizeOf, typeInfo, hq, hi, ← hn, hl, hst]
theorem run_copyK0 {P : Program} (w : World) (dT sT ty elem : TypeId) (k : Nat) (d a : Option Addr) (dCap sCap : Nat) (hu : P.underlying dT = some (.slice elem)) (hs : (P.info? elem).map (·.size) = some k) :
    (Builtin.copy_ #[dT, sT] ty #[.slice d 0 dCap, .slice a 0 sCap]).run P w = .ok (goInt 0) w := by
  cases hq : P.info? elem with
  | none => simp [hq] at hs
  | some i =>
    have hl : ∀ (x : Addr), (loadCells x 0).run P w = .ok #[] w := fun x => by simpa using run_loadCells_list (P := P) w x [] (by simp)
    cases d <;> cases a <;> simp [Builtin.copy_, run_underlying hu, Builtin.lenOf, Builtin.firstCells, sizeOf, typeInfo, hq, storeCells, hl]
theorem fr_setCells {S : Nat → Prop} {g : Nat} (hS : S g) : ∀ (vs : List Value) (o : Nat) (w : World), Fr S w (w.setCells g o vs)
  | [], _, w => Fr.refl S w
  | v :: r, o, w => by
    rw [World.setCells]
    exact ((Fr.refl S w).setCell (p := ⟨g, o, none⟩) (fun _ => hS) v).call (fr_setCells hS r (o + 1) _) (fun _ h _ => h)
theorem blk_setCells {g t : Nat} : ∀ (vs : List Value) (o : Nat) (w : World) (cur : Array Value), Blk w g t cur → o + vs.length ≤ cur.size →
    Blk (w.setCells g o vs) g t (cur.toList.take o ++ (vs ++ cur.toList.drop (o + vs.length))).toArray
  | [], o, w, cur, h, _ => by
    rw [World.setCells]
    simpa using h
  | v :: r, o, w, cur, h, hl => by
    rw [World.setCells]
    simp only [List.length_cons] at hl
    have h2 := blk_setCells r (o + 1) _ _ (h.set o v) (by simp; omega)
    have e : ((cur.setIfInBounds o v).toList.take (o + 1) ++ (r ++ (cur.setIfInBounds o v).toList.drop (o + 1 + r.length))) = cur.toList.take o ++ (v :: r ++ cur.toList.drop (o + (v :: r).length)) := by
      rw [Array.toList_setIfInBounds, List.take_set, List.drop_set_of_lt (by omega)]
      have hlo : o < cur.toList.length := by simpa using (show o < cur.size by omega)
      rw [List.take_succ_eq_append_getElem hlo, List.set_append_right _ _ (by simp; omega)]
      have : o - (cur.toList.take o).length = 0 := by rw [List.length_take]; omega
      rw [this]
      simp only [List.length_cons, List.append_assoc, List.cons_append, List.nil_append, List.set_cons_zero]
      rw [show o + 1 + r.length = o + (r.length + 1) by omega]
    rw [e] at h2
    exact h2
theorem elemPt : ElemT Try.prog 25 41 2 32 := ElemT.mk (z := .agg #[.int .i64 0, .slice none 0 0]) Try.underlying25 (by kernel_rfl) (by kernel_rfl) (by decide)
theorem elemPtS : (Try.prog.info? 41).map (·.size) = some 2 := by kernel_rfl
/-- Points in a block of their own, with propositions in new memory. -/
structure WNew (N : Nat) (w : World) (g : Nat) (qs : List Pn) : Prop where
  blk : Blk w g 41 (qs.flatMap pnc).toArray
  new : N ≤ g
  inn : ∀ q ∈ qs, Sl w 2 q.A q.l.length q.c (q.l.flatMap pcs) ∧ ∀ b o, q.A = some ⟨b, o, none⟩ → N ≤ b ∧ b ≠ g ∧ Pb w b
theorem flat_len2 (qs : List Pn) : (qs.flatMap pnc).length = qs.length * 2 := flat_len pnc 2 pnc_len qs
theorem WNew.sl {N : Nat} {w : World} {g : Nat} {qs : List Pn} (h : WNew N w g qs) (hm : qs.length ≤ 1000000) : WSl w (some ⟨g, 0, none⟩) qs.length qs :=
  ⟨by have := Sl.new1 h.blk 2 qs.length (by rw [List.size_toArray, flat_len2]) (by unfold maxLen; omega); simpa using this, fun q hq => (h.inn q hq).1⟩
theorem WNew.fr {N : Nat} {w w' : World} {g : Nat} {qs : List Pn} (h : WNew N w g qs) (hf : Fr Nob w w') : WNew N w' g qs :=
  ⟨h.blk.fr hf (fun e => e), h.new, fun q hq => ⟨(h.inn q hq).1.pure hf, fun b o e => ⟨((h.inn q hq).2 b o e).1, ((h.inn q hq).2 b o e).2.1, ((h.inn q hq).2 b o e).2.2.fr hf (fun e => e)⟩⟩⟩
/-- How far the copy is. -/
structure CpI (w wr : World) (g : Nat) (ps qs : List Pn) (k : Nat) : Prop where
  len : qs.length = k
  same : pts qs = pts (ps.take k)
  blk : Blk wr g 41 ((qs ++ ps.drop k).flatMap pnc).toArray
  inn : ∀ q ∈ qs, Sl wr 2 q.A q.l.length q.c (q.l.flatMap pcs) ∧ ∀ b o, q.A = some ⟨b, o, none⟩ → w.heap.size ≤ b ∧ b ≠ g ∧ Pb wr b
  fr : Fr Nob w wr
theorem run_mkf {P : Program} {t e : TypeId} {size bytes : Nat} (hE : ElemT P t e size bytes) (n : Nat) (hb : bytes * n ≤ 281474976710656) (h63 : n ≤ maxLen) :
    ∃ cs : Array Value, cs.size = n * size ∧ ∀ W : World, (Instr.makeSlice t (.int .i64 n) (.int .i64 n)).run P W = .ok (.slice (some ⟨W.heap.size, 0, none⟩) n n) (W.alloc (.cells cs e)) := by
  obtain ⟨ht, _, i, z, hi, hz, hsize, hby, _⟩ := hE
  refine ⟨madeCells z.cells (n * size), size_madeCells _ _, fun W => ?_⟩
  have hb' : (i.bytes : Int) * (n : Int) ≤ 281474976710656 := by
    rw [hby]
    have h : ((bytes * n : Nat) : Int) ≤ 281474976710656 := by omega
    rwa [Int.natCast_mul] at h
  have hr := run_make (P := P) W t e i z ht hi hz .i64 .i64 n n (by omega) (Int.le_refl _) hb' (by unfold maxLen at h63; omega)
  simp only [Int.toNat_natCast, hsize] at hr
  exact hr
theorem pncs_one (ps : List Pn) : ∀ u ∈ ps.flatMap pnc, u.oneCell' = true := by
  intro u hu
  obtain ⟨p, _, hp⟩ := List.mem_flatMap.1 hu
  exact pnc_one p u hp
theorem cp_run (w : World) (A : Option Addr) (c ty : Nat) (ps : List Pn) (h : WSl w A c ps) (cs : Array Value) (hcs : cs.size = ps.length * 2) :
    ∃ w1, (Builtin.copy_ #[25, 25] ty #[.slice (some ⟨w.heap.size, 0, none⟩) ps.length ps.length, .slice A ps.length c]).run Try.prog (w.alloc (.cells cs 41)) = .ok (goInt ps.length) w1 ∧ Blk w1 w.heap.size 41 (ps.flatMap pnc).toArray ∧ Fr Nob w w1 := by
  have hb := Blk.new w 41 cs
  have hf : Fr Nob w ((w.alloc (.cells cs 41)).setCells w.heap.size 0 (ps.flatMap pnc)) := ((Fr.refl Nob w).alloc _).call (fr_setCells (S := Only w.heap.size) rfl _ _ _) (fun i hi hlt => by unfold Only at hi; omega)
  have hbs := blk_setCells (ps.flatMap pnc) 0 _ _ hb (by rw [flat_len2, hcs]; omega)
  have e : (cs.toList.take 0 ++ (ps.flatMap pnc ++ cs.toList.drop (0 + (ps.flatMap pnc).length))) = ps.flatMap pnc := by
    rw [List.take_zero, List.nil_append, Nat.zero_add, flat_len2, List.drop_of_length_le (by simp [hcs]), List.append_nil]
  rw [e] at hbs
  rcases Nat.eq_zero_or_pos ps.length with h0 | h0
  · have hn : ps = [] := List.eq_nil_of_length_eq_zero h0
    subst hn
    exact ⟨_, by simpa [World.setCells] using run_copyK0 (P := Try.prog) (w.alloc (.cells cs 41)) 25 25 ty 41 2 (some ⟨w.heap.size, 0, none⟩) A 0 c Try.underlying25 elemPtS, hbs, hf⟩
  · obtain ⟨b, off, rfl, hbl, hc⟩ := h.sl.cells h0
    refine ⟨_, run_copyK (P := Try.prog) (w.alloc (.cells cs 41)) 25 25 ty 41 2 w.heap.size 0 ps.length ps.length c ⟨b, off, none⟩ (ps.flatMap pnc) Try.underlying25 elemPtS (flat_len2 ps) ?_ ?_ ?_ (pncs_one ps), hbs, hf⟩
    · intro j v hv
      rw [add_zero_addr]
      exact ((Fr.refl Nob w).alloc _).cell (hc j v hv) (fun e => e)
    · intro j hj
      rw [Nat.zero_add, hb.cell]
      rw [flat_len2] at hj
      rw [Array.getElem?_eq_getElem (by omega)]; rfl
    · intro j _
      rw [Nat.zero_add]
      exact hb.frozen j
theorem cp_set {ps qs : List Pn} {k : Nat} (hl : qs.length = k) (hk : k < ps.length) (A' : Option Addr) (c' : Nat) :
    ((qs ++ ps.drop k).flatMap pnc).toArray.setIfInBounds (k * 2 + 1) (.slice A' ps[k].l.length c') = (((qs ++ [(⟨ps[k].t, A', c', ps[k].l⟩ : Pn)]) ++ ps.drop (k + 1)).flatMap pnc).toArray := by
  rw [List.drop_eq_getElem_cons hk]
  have hq : (qs.flatMap pnc).length = k * 2 := by rw [flat_len2, hl]
  simp only [List.flatMap_append, List.flatMap_cons, List.flatMap_nil, List.append_nil, List.append_assoc]
  rw [List.setIfInBounds_toArray, List.set_append_right _ _ (by omega), hq, show k * 2 + 1 - k * 2 = 1 by omega]
  rfl
theorem cp_get {ps qs : List Pn} {k : Nat} (hl : qs.length = k) (hk : k < ps.length) : ((qs ++ ps.drop k).flatMap pnc).toArray[k * 2 + 1]? = some (.slice ps[k].A ps[k].l.length ps[k].c) := by
  rw [List.drop_eq_getElem_cons hk]
  have hq : (qs.flatMap pnc).length = k * 2 := by rw [flat_len2, hl]
  simp only [List.flatMap_append, List.flatMap_cons, List.getElem?_toArray]
  rw [List.getElem?_append_right (by omega), hq, show k * 2 + 1 - k * 2 = 1 by omega]
  rfl
theorem CpI.step {w wr w1 : World} {g k : Nat} {ps qs : List Pn} {A' : Option Addr} {c' : Nat} (h : CpI w wr g ps qs k) (hk : k < ps.length) (hg : w.heap.size ≤ g) (hf : Fr Nob wr w1) (hs : Sl w1 2 A' ps[k].l.length c' (ps[k].l.flatMap pcs)) (hn : ∀ b o, A' = some ⟨b, o, none⟩ → wr.heap.size ≤ b ∧ Pb w1 b) :
    CpI w (w1.setCell ⟨g, k * 2 + 1, none⟩ (.slice A' ps[k].l.length c')) g ps (qs ++ [⟨ps[k].t, A', c', ps[k].l⟩]) (k + 1) := by
  have hgl := h.blk.lt
  have hws := h.fr.size
  refine ⟨by simp [h.len], ?_, ?_, ?_, (h.fr.call hf (fun _ h _ => h)).setCell (p := ⟨g, k * 2 + 1, none⟩) (fun hlt => absurd hlt (by simp; omega)) _⟩
  · have := h.same
    unfold pts at this ⊢
    rw [List.map_append, this, List.take_succ_eq_append_getElem hk, List.map_append]; rfl
  · have := (h.blk.fr hf (fun e => e)).set (k * 2 + 1) (.slice A' ps[k].l.length c')
    rwa [cp_set h.len hk] at this
  · intro q hq
    rw [List.mem_append, List.mem_singleton] at hq
    rcases hq with hq | rfl
    · obtain ⟨h1, h2⟩ := h.inn q hq
      exact ⟨(h1.pure hf).set (p := ⟨g, k * 2 + 1, none⟩) (fun b o e => (h2 b o e).2.1) _, fun b o e => ⟨(h2 b o e).1, (h2 b o e).2.1, ((h2 b o e).2.2.fr hf (fun e => e)).set _ _ _⟩⟩
    · refine ⟨hs.set (p := ⟨g, k * 2 + 1, none⟩) (fun b o e => ?_) _, fun b o e => ?_⟩
      · have := (hn b o e).1; simp; omega
      · have := (hn b o e).1; exact ⟨by omega, by omega, (hn b o e).2.set _ _ _⟩
set_option maxRecDepth 100000 in
set_option maxHeartbeats 4000000 in
theorem wd_copied (w : World) (A : Option Addr) (c : Nat) (ps : List Pn) (h : WSl w A c ps) (h63 : ps.length ≤ 1000) (hl : ∀ p ∈ ps, p.l.length ≤ 10000) :
    Calls Try.prog 22 #[.slice A ps.length c] w fun e w' => ∃ g qs, e = .returned (.slice (some ⟨g, 0, none⟩) ps.length ps.length) ∧ pts qs = pts ps ∧ WNew w.heap.size w' g qs ∧ Fr Nob w w' := by
  have HL := Lib.hid h
  have HLN := Lib.hid hl
  obtain ⟨cs, hcs, hmk⟩ := run_mkf elemPt ps.length (by omega) (by unfold maxLen; omega)
  have HCP := Lib.hid (fun ty => cp_run w A c ty ps h cs hcs)
  clear h hl hcs
  go_enter Try.func22, Try.ntmps22
  obtain ⟨w1, hcp, hb1, hf1⟩ := HCP.out 3
  have HB1 := Lib.hid hb1
  have HF1 := Lib.hid hf1
  clear HCP hb1 hf1
  go_wp2_with fail
  go_loopw [13] (fun iv wr => ∃ (k : Nat) (qs : List Pn), k ≤ ps.length ∧ iv = .int .i64 k ∧ Hid (CpI w wr w.heap.size ps qs k)) (fun iv _ => ps.length - (intOf iv).toNat)
  case atStart => exact ⟨0, [], Nat.zero_le _, rfl, Lib.hid ⟨rfl, rfl, by simpa using HB1.out, (fun q hq => by cases hq), HF1.out⟩⟩
  case round =>
    clear hcp hmk
    obtain ⟨k, qs, hk, rfl, hi⟩ := hrel
    by_cases hlt : k < ps.length
    · have hI : (k : Int) < ps.length := by omega
      have hI3 : 0 ≤ (k : Int) := by omega
      have hgl := hi.out.blk.lt
      have g1 : wr.cell? ⟨w.heap.size, k * 2 + 1, none⟩ = some (.slice ps[k].A ps[k].l.length ps[k].c) := (hi.out.blk.cell _).trans (cp_get hi.out.len hlt)
      have HC := Lib.hid (lab_Clone wr ps[k].A ps[k].c ps[k].l ((HL.out.inn _ (List.getElem_mem hlt)).pure hi.out.fr) (HLN.out _ (List.getElem_mem hlt)))
      have HB := Lib.hid (fun W (hf : Fr Nob wr W) => hi.out.blk.fr hf (fun e => e))
      have HST := Lib.hid (fun A' c' w2 hf hs hn => hi.out.step (A' := A') (c' := c') (w1 := w2) hlt (Nat.le_refl _) hf hs hn)
      clear hi
      generalize ps[k] = p at *
      obtain ⟨t, pA, pc, l⟩ := p
      dsimp only at g1 HC HST
      go_wp2_with ((go_at_call 38); (with_reducible refine (HC.out).mono ?_); rintro e w2 ⟨A', c', rfl, hown, hf2⟩; have hb2 := HB.out _ hf2; have f2 := hb2.frozen (k * 2 + 1); have hl2 := hb2.lt; have c2 : ∃ v, w2.cell? ⟨w.heap.size, k * 2 + 1, none⟩ = some v := ⟨_, hf2.cell g1 (fun e => e)⟩; obtain ⟨cv, c2⟩ := c2; have HS2 := Lib.hid (HST.out A' c' w2 hf2 (Sl.of_own hown) (fun b o e => ⟨own_addr hown b o e, own_pb hown b o e⟩)); clear hb2 hown hf2)
      go_roundw
      case rel => exact ⟨k + 1, _, by omega, by go_num, HS2⟩
      case measure => simp [intOf]; omega
    · have hkk : k = ps.length := by omega
      have HE := Lib.hid (show pts qs = pts ps ∧ Blk wr w.heap.size 41 (qs.flatMap pnc).toArray from by
        have h1 := hi.out.same
        have h2 := hi.out.blk
        rw [hkk, List.take_length] at h1
        rw [hkk, List.drop_length, List.append_nil] at h2
        exact ⟨h1, h2⟩)
      go_wp2_with fail
      go_ret
      exact ⟨_, qs, rfl, HE.out.1, ⟨HE.out.2, Nat.le_refl _, hi.out.inn⟩, hi.out.fr⟩
end Go.Proofs.Ytckmmihbipmkcaa
