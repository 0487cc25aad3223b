/- formula.Show. -/
import Derived.Test.YtdiapojppmoghaaDoorFshow2
namespace Go.Proofs.YtdiapojppmoghaaDoor
open Go.RowKit Go.Shelf

def stp (st : List Pc) : List Value := prow (st.map Pc.pt)
theorem stp_len (st : List Pc) : (stp st).length = st.length * 2 := by rw [stp, prow_len, List.length_map]
theorem stp_snoc (r : List Pc) (p : Pc) : stp (r ++ [p]) = stp r ++ ptc p.pt := by simp [stp, prow]
theorem stp_app (r m : List Pc) : stp (r ++ m) = stp r ++ stp m := by simp [stp, prow]
/-- What stands while a formula is shown. B: the builder; w1: the world in which it was made. -/
structure ShC (w1 wr : World) (B : Nat) (A : Option Addr) (c : Nat) (st : List Pc) (acc : List UInt8) : Prop where
  bel : Below B w1 wr
  bd : Bd B B acc wr
  own : wr.ownsRow (B + 1) 61 2 (.slice A st.length c) st.length (stp st)
  good : ∀ q ∈ st, q.good B wr
  size : B + 1 ≤ wr.heap.size
/-- Rows of pieces are no rows of bytes: what is written to the builder leaves them. -/
theorem own_keep {w w' : World} {B base : Nat} {A : Option Addr} {n c : Nat} {xs : List Value} (h : w.ownsRow base 61 2 (.slice A n c) n xs) (hk : BdKeep B w w') (hB : B < base) : w'.ownsRow base 61 2 (.slice A n c) n xs := by
  refine ⟨h.1, ?_⟩
  rcases h.2 with hn | ⟨g, cap, cur, hv, hb, hg, rest⟩
  · exact .inl hn
  · exact .inr ⟨g, cap, cur, hv, hb, hk g _ hg (by simp; omega) (fun c fz e => by simp only [Obj.cells.injEq] at e; exact absurd e.2.1 (by decide)), rest⟩
theorem Bd.fr {w w' : World} {B : Nat} {l : List UInt8} (h : Bd B B l w) (hf : Fr Nob w w') : Bd B B l w' := by
  have hk : ∀ k o, w.heap[k]? = some o → w'.heap[k]? = some o := fun k o ho => (hf.block k (Array.getElem?_eq_some_iff.1 ho).1 (fun e => e)).trans ho
  have h1 : ∀ p, Lib.BuilderAtF 59 5 B B p (Lib.byteCells l) w → Lib.BuilderAtF 59 5 B B p (Lib.byteCells l) w' := by
    rintro p ⟨h0, v, hb, hown, hne⟩
    refine ⟨h0, v, hk _ _ hb, ⟨hown.1, ?_⟩, hne⟩
    rcases hown.2 with hn | ⟨g, cap, cur, fz, hv, hbb, hg, rest⟩
    · exact .inl hn
    · exact .inr ⟨g, cap, cur, fz, hv, hbb, hk _ _ hg, rest⟩
  exact h.imp (h1 _) (h1 _)
/-- An append to a row of pieces leaves the builder. -/
theorem Bd.grown {w w' : World} {B base : Nat} {l : List UInt8} {A : Option Addr} {n c : Nat} {xs : List Value} (h : Bd B B l w) (hown : w.ownsRow base 61 2 (.slice A n c) n xs) (hg : w.grownBy w' (A.map (·.block))) : Bd B B l w' := by
  have hk : ∀ k cs t fz, t ≠ 61 → w.heap[k]? = some (Obj.cells cs t fz) → w'.heap[k]? = some (Obj.cells cs t fz) := fun k cs t fz ht ho => by
    refine (hg.block k (Array.getElem?_eq_some_iff.1 ho).1 (fun e => ?_)).trans ho
    rcases hown.2 with ⟨hn, _⟩ | ⟨g, cap, cur, hv, _, hgg, _⟩
    · simp only [Value.slice.injEq] at hn; rw [hn.1] at e; cases e
    · simp only [Value.slice.injEq] at hv
      rw [hv.1] at e
      simp only [Option.map_some, Option.some.injEq] at e
      subst e
      rw [hgg] at ho
      simp only [Option.some.injEq, Obj.cells.injEq] at ho
      exact ht ho.2.1.symm
  have h1 : ∀ p, Lib.BuilderAtF 59 5 B B p (Lib.byteCells l) w → Lib.BuilderAtF 59 5 B B p (Lib.byteCells l) w' := by
    rintro p ⟨h0, v, hb, ho, hne⟩
    refine ⟨h0, v, hk _ _ _ _ (by decide) hb, ⟨ho.1, ?_⟩, hne⟩
    rcases ho.2 with hn | ⟨g, cap, cur, fz, hv, hbb, hgg, rest⟩
    · exact .inl hn
    · exact .inr ⟨g, cap, cur, fz, hv, hbb, hk _ _ _ _ (by decide) hgg, rest⟩
  exact h.imp (h1 _) (h1 _)
theorem NodeAt.below {N : Nat} {w w' : World} {x : Nd} {A : Option Addr} {c : Nat} {ks : Fo} {b off : Nat} (h : NodeAt N w x A c ks b off) (hb : Below N w w') : NodeAt N w' x A c ks b off :=
  have hc : ∀ {p : Addr} {v : Value}, p.block = b → w.cell? p = some v → w'.cell? p = some v := fun e hp => (hb.cell (by rw [e]; exact h.lt)).trans hp
  ⟨h.ok, ⟨hc rfl h.nd.h0, hc rfl h.nd.h1, hc rfl h.nd.h2, hc rfl h.nd.h3, hc rfl h.nd.h4, hc rfl h.nd.h5, hc rfl h.nd.h6⟩, h.sl.keep (fun k hk _ => hb.block k hk), h.lt⟩
theorem Pc.good.below {B : Nat} {w w' : World} {p : Pc} (h : p.good B w) (hb : Below B w w') : p.good B w' := fun n hn => (h n hn).below hb
theorem BdKeep.blk {B g : Nat} {w w' : World} {t : TypeId} {cs : Array Value} (h : BdKeep B w w') (hb : Blk w g t cs) (hg : g ≠ B) (ht : t ≠ 5) : Blk w' g t cs :=
  h g _ hb (by simpa using hg) (fun c fz e => by simp only [Obj.cells.injEq] at e; exact ht e.2.1)
theorem stp_get {l : List Pc} : ∀ {k : Nat} (hk : k < l.length), (stp l)[k * 2]? = some (.string l[k].t) ∧ (stp l)[k * 2 + 1]? = some (.pointer l[k].addr) := by
  induction l with
  | nil => intro k hk; simp at hk
  | cons p l ih =>
    intro k hk
    cases k with
    | zero => exact ⟨rfl, rfl⟩
    | succ k =>
      have h := ih (k := k) (by simpa using hk)
      rw [show (k + 1) * 2 = k * 2 + 2 by omega]
      exact h
theorem rev_take {l : List Pc} {k : Nat} (hk : k < l.length) : l.reverse.take (k + 1) = l.reverse.take k ++ [l[l.length - 1 - k]] := by
  rw [List.take_succ_eq_append_getElem (by simpa using hk), List.getElem_reverse]
theorem ShC.pop {w1 wr : World} {B : Nat} {A : Option Addr} {c : Nat} {r : List Pc} {p : Pc} {acc : List UInt8} (h : ShC w1 wr B A c (r ++ [p]) acc) : ShC w1 wr B A c r acc := by
  have ho := own_take h.own (by simp) (show r.length ≤ (r ++ [p]).length by simp)
  rw [show (stp (r ++ [p])).take (r.length * 2) = stp r by rw [stp_snoc, List.take_append_of_le_length (by rw [stp_len]; exact Nat.le_refl _), ← stp_len, List.take_length]] at ho
  exact ⟨h.bel, h.bd, ho, fun q hq => h.good q (List.mem_append_left _ hq), h.size⟩
theorem ShC.fr {w1 wr wi : World} {B : Nat} {A : Option Addr} {c : Nat} {st : List Pc} {acc : List UInt8} (h : ShC w1 wr B A c st acc) (hf : Fr Nob wr wi) : ShC w1 wi B A c st acc :=
  ⟨h.bel.trans (hf.below.mono (by have := h.size; omega)), h.bd.fr hf, own_fr h.own hf (fun _ _ _ _ e => e), fun q hq => (h.good q hq).below (hf.below.mono (by have := h.size; omega)), Nat.le_trans h.size hf.size⟩
theorem ShC.write {w1 wr wi : World} {B : Nat} {A : Option Addr} {c : Nat} {st : List Pc} {acc acc' : List UInt8} (h : ShC w1 wr B A c st acc) (hb : Bd B B acc' wi) (hl : Below B wr wi) (hk : BdKeep B wr wi) : ShC w1 wi B A c st acc' :=
  ⟨h.bel.trans hl, hb, own_keep h.own hk (by omega), fun q hq => (h.good q hq).below hl, Nat.le_trans h.size hl.size⟩
theorem ShC.push {w1 wr wi : World} {B : Nat} {A A' : Option Addr} {c c' : Nat} {st : List Pc} {acc : List UInt8} (q : Pc) (h : ShC w1 wr B A c st acc) (hq : q.good B wr) (hown : wi.ownsRow (B + 1) 61 2 (.slice A' (st.length + 1) c') (st.length + 1) (stp st ++ ptc q.pt)) (hg : wr.grownBy wi (A.map (·.block))) :
    ShC w1 wi B A' c' (st ++ [q]) acc :=
  ⟨h.bel.grown hg (by have := h.size; omega) (fun k e => by have := own_base h.own k e; omega), h.bd.grown h.own hg, by rw [stp_snoc, List.length_append]; exact hown,
    fun p hp => by
      rcases List.mem_append.1 hp with hp | hp
      · exact (h.good p hp).below ((Below.refl B wr).grown hg (by have := h.size; omega) (fun k e => by have := own_base h.own k e; omega))
      · rw [List.mem_singleton.1 hp]; exact hq.below ((Below.refl B wr).grown hg (by have := h.size; omega) (fun k e => by have := own_base h.own k e; omega)),
    Nat.le_trans h.size hg.size⟩
/-- What stands while the pieces are laid on the stack. -/
structure ShN (w1 wi : World) (B N : Nat) (A2 : Option Addr) (c2 : Nat) (r l : List Pc) (k : Nat) (acc : List UInt8) (Al : Option Addr) (cl : Nat) : Prop where
  c : ShC w1 wi B A2 c2 (r ++ l.reverse.take k) acc
  own : wi.ownsRow N 61 2 (.slice Al l.length cl) l.length (stp l)
  ne : ∀ q, A2.map (·.block) = some q → Al.map (·.block) ≠ some q
  good : ∀ q ∈ l, q.good B wi
theorem ShN.push {w1 wi w5 : World} {B N : Nat} {A2 A5 : Option Addr} {c2 c5 : Nat} {r l : List Pc} {k : Nat} {acc : List UInt8} {Al : Option Addr} {cl : Nat} {cs : Array Value} (h : ShN w1 wi B N A2 c2 r l k acc Al cl) (hk : k < l.length)
    (hown : w5.ownsRow (B + 1) 61 2 (.slice A5 (r.length + k + 1) c5) (r.length + k + 1) (stp (r ++ l.reverse.take k) ++ ptc l[l.length - 1 - k].pt)) (hg : (wi.alloc (.cells cs 61)).grownBy w5 (A2.map (·.block))) (hl : Lies A5 A2 (wi.heap.size + 1)) :
    ShN w1 w5 B N A5 c5 r l (k + 1) acc Al cl := by
  have hlen : (r ++ l.reverse.take k).length = r.length + k := by simp; omega
  have hbl : Below B wi w5 := ((Below.refl B wi).alloc (by have := h.c.size; omega) _).grown hg (by have := h.c.size; simp; omega) (fun q e => by have := own_base h.c.own q e; omega)
  refine ⟨?_, ?_, ?_, fun q hq => (h.good q hq).below hbl⟩
  · have h2 := (h.c.fr ((Fr.refl Nob wi).alloc (.cells cs 61))).push l[l.length - 1 - k] ((h.good _ (List.getElem_mem _)).below ((Below.refl B wi).alloc (by have := h.c.size; omega) _)) (by rw [hlen]; exact hown) hg
    rw [rev_take hk, ← List.append_assoc]
    exact h2
  · refine World.ownsRow.kept (h.own.alloc _) hg ?_
    cases Al with
    | none => exact .inl rfl
    | some a =>
      right
      intro e
      exact h.ne a.block e.symm rfl
  · intro q hq
    rcases hl with e | e
    · exact h.ne q (by rw [← e]; exact hq)
    · rw [hq] at e
      simp only [Option.some.injEq] at e
      intro e2
      have := h.own.lt q (by cases Al <;> simp_all [Value.ownBlock])
      omega
theorem outS_len {acc : List UInt8} {r : List Pc} {p : Pc} {T : List UInt8} (h : acc ++ outS (r ++ [p]) = T) : acc.length + p.t.size ≤ T.length := by
  have e : p.t.data.toList.length = p.t.size := Array.length_toList
  rw [← h, outS_snoc]
  simp only [List.length_append, Pc.out, e]
  omega
set_option maxRecDepth 100000 in
set_option maxHeartbeats 8000000 in
theorem prg_Show (w : World) (x : Nd) (A : Option Addr) (c : Nat) (ks : Fo) (hs : FoSl w.heap.size w A c ks) (hsz : ks.tr.size ≤ 100000) (hv : ShVar w) (ht : TbVar w) (hx : NdOk x) (hk : ks.tr.ok) (hwt : x.name.size + ks.tr.wt ≤ 1000000)
    (hnm : ∀ y ∈ (Tr.cons x ks.tr .nil).nodes 1, y.1.name.size ≤ 9223372036854775807) :
    Calls Tryd.prog 19 #[fval x A ks.len c] w fun e w' => e = .returned (.string (showT x ks.tr)) ∧ Fr Nob w w' := by
  have hb1 := box_at (x := x) hs 28
  have HSO := Lib.hid (fun W (hf : Fr Nob w W) => prg_Sound W x A c ks ((hs.fr hf).mono hf.size) hsz (hv.fr hf) hnm)
  by_cases hg : ¬ firstW ((Tr.cons x ks.tr .nil).nodes 1) = 0
  · have HR := Lib.hid (show showT x ks.tr = .empty by unfold showT; rw [if_neg hg])
    have HG := Lib.hid (show (firstW ((Tr.cons x ks.tr .nil).nodes 1) == 0) = false by simpa using hg)
    rw [HG.out] at HSO
    unfold fval at *
    go_enter Tryd.func19, Tryd.ntmps19
    go_wp2_with ((go_at_call 15); refine (HSO.out _ ((Fr.refl _ _).alloc _)).mono ?_; rintro e w1 ⟨rfl, hf1⟩)
    go_ret
    rw [HR.out]
    exact ⟨rfl, ((Fr.refl _ _).alloc _).call hf1 (fun _ h _ => h)⟩
  · replace hg : firstW ((Tr.cons x ks.tr .nil).nodes 1) = 0 := by simpa using hg
    have HR := Lib.hid (show showT x ks.tr = textT x ks.tr by unfold showT; rw [if_pos hg])
    have hgd := (good_first x ks.tr).1 hg
    rw [Fo.tr_len] at hgd
    have hok : TxOk x ks := ⟨hx, hk, hgd.1, hgd.2, hwt, hsz⟩
    have HG := Lib.hid (show (firstW ((Tr.cons x ks.tr .nil).nodes 1) == 0) = true by simpa using hg)
    rw [HG.out] at HSO
    have HTL := Lib.hid (show (textT x ks.tr).data.toList.length ≤ 1000060 by have := hok.text; rw [Array.length_toList]; exact this)
    have HS6 := Lib.hid (show 6 * (ks.tr.size + 1) ≤ 700000 by omega)
    have HV := Lib.hid hv
    have HT := Lib.hid ht
    have HND := Lib.hid (show NodeAt (w.heap.size + 1) (w.alloc (.cells #[.int .i64 x.op, .string x.name, .int .i64 x.cmp, .int .i64 x.val, .int .i64 x.lo, .int .i64 x.hi, .slice A ks.len c] 28)) x A c ks w.heap.size 0 from
      ⟨hok, NdAt.of (fun j u hu => by have := hb1.2.2.1 j u hu; exact this), (hs.keep (fun k _ hlt => Below.heap_alloc _ _ k hlt)).mono (by omega), by omega⟩)
    clear hs hsz hv ht hx hk hwt hnm hb1 hg hgd hok HG
    rw [HR.out]
    unfold fval at *
    generalize hTT : (textT x ks.tr) = T at *
    have HTT := Lib.hid hTT
    clear hTT HR
    go_enter Tryd.func19, Tryd.ntmps19
    go_wp2_with ((go_at_call 15); refine (HSO.out _ ((Fr.refl _ _).alloc _)).mono ?_; rintro e w1 ⟨rfl, hf1⟩)
    have hz1 : w.heap.size + 1 ≤ w1.heap.size := by have := hf1.size; simpa using this
    have HC := Lib.hid (show ShC w1 ((w1.alloc (.cells #[.pointer none, .slice none 0 0] 59)).alloc (.cells #[.string ⟨#[]⟩, .pointer (some ⟨w.heap.size, 0, none⟩)] 61)) w1.heap.size (some ⟨w1.heap.size + 1, 0, none⟩) 1 [⟨⟨#[]⟩, some (x, A, c, ks, w.heap.size, 0)⟩] [] from
      ⟨((Below.refl _ _).alloc (Nat.le_refl _) _).alloc (by simp) _, (Lib.IsBuilderF.of (Lib.fresh_isBuilder 59 5 w1)).alloc _,
        by
          have h := own_new1 (w := w1.alloc (.cells #[.pointer none, .slice none 0 0] 59)) (base := w1.heap.size + 1) (n := 1) (l := stp [⟨⟨#[]⟩, some (x, A, c, ks, w.heap.size, 0)⟩]) (cs := #[.string ⟨#[]⟩, .pointer (some ⟨w.heap.size, 0, none⟩)]) (by simp) (by omega) rfl rfl
          simpa using h,
        fun q hq n hn => by
          simp only [List.mem_singleton] at hq
          subst hq
          simp only [Option.some.injEq] at hn
          subst hn
          have h := HND.out.below (hf1.below.mono (by simp))
          exact NodeAt.below ⟨h.ok, h.nd, h.sl.mono hz1, Nat.lt_of_lt_of_le h.lt hz1⟩ (((Below.refl _ _).alloc (Nat.le_refl _) _).alloc (by simp) _), by simp⟩)
    have HFW := Lib.hid (show Fr Nob w w1 from ((Fr.refl _ _).alloc _).call hf1 (fun _ h _ => h))
    have HEQ := Lib.hid (show [] ++ outS [⟨⟨#[]⟩, some (x, A, c, ks, w.heap.size, 0)⟩] = T.data.toList by rw [← HTT.out]; simp [outS, outL, Pc.out, Pc.ntext])
    have HWG := Lib.hid (show wgtL [⟨⟨#[]⟩, some (x, A, c, ks, w.heap.size, 0)⟩] ≤ 700000 by have := HS6.out; simpa [wgtL, Pc.wgt] using this)
    generalize (⟨⟨#[]⟩, some (x, A, c, ks, w.heap.size, 0)⟩ : Pc) = p0 at *
    have HVV := Lib.hid (HV.out.fr HFW.out)
    have HTB := Lib.hid (HT.out.fr HFW.out)
    clear HND HV HT hf1 HSO
    go_loopg [4] (wgtL [p0]) (fun gk sv wr => ∃ (A' : Option Addr) (c' : Nat) (st : List Pc) (acc : List UInt8), sv = .slice A' st.length c' ∧ gk = wgtL st ∧ Hid (ShC w1 wr w1.heap.size A' c' st acc) ∧ Hid (acc ++ outS st = T.data.toList) ∧ Hid (wgtL st ≤ 700000))
    case atStart => exact ⟨_, _, _, _, rfl, rfl, HC, HEQ, HWG⟩
    case round =>
      clear HC HEQ HWG
      obtain ⟨A', c', st, acc, rfl, hgk, hi, heq, hwg⟩ := hrel
      rcases List.eq_nil_or_concat st with rfl | ⟨r, p, rfl⟩
      · have HAC := Lib.hid (show acc = T.data.toList by have := heq.out; simpa [outS, outL] using this)
        clear hgk
        have HSZ := Lib.hid (show w1.heap.size ≤ wr.heap.size from by have := hi.out.size; omega)
        go_wp2_with ((go_at_call 31); refine (bd_String _ _ _ _ hi.out.bd HSZ.out).mono ?_; rintro e w2 ⟨rfl, hb2, hl2, hk2⟩)
        go_ret
        rw [HAC.out]
        exact ⟨rfl, Fr.of_below ((HFW.out.below.trans (hi.out.bel.mono HFW.out.size)).trans (hl2.mono HFW.out.size))⟩
      · rw [List.concat_eq_append] at hi hgk heq hwg ⊢
        obtain ⟨g, rfl, hg1, hg2, hlc, hcm, hcell⟩ := own_get hi.out.own (by simp)
        try simp only [List.length_append, List.length_singleton] at hlc ⊢
        have hsmall : (r.length : Int) ≤ 700000 := by have h1 := wgtL_len (r ++ [p]); have h2 := hwg.out; rw [List.length_append, List.length_singleton] at h1; omega
        have hr0 : (0 : Int) ≤ r.length := by omega
        have e0 : wr.cell? ⟨g, r.length * 2, none⟩ = some (.string p.t) := hcell _ _ (by rw [stp_snoc, List.getElem?_append_right (by rw [stp_len]; omega), stp_len, Nat.sub_self]; rfl)
        have e1 : wr.cell? ⟨g, r.length * 2 + 1, none⟩ = some (.pointer p.addr) := hcell _ _ (by rw [stp_snoc, List.getElem?_append_right (by rw [stp_len]; omega), stp_len, Nat.add_sub_cancel_left]; rfl)
        have HGK := Lib.hid hgk
        have hlen := outS_len heq.out
        have HTL2 := HTL.out
        have hsi := hi.out.size
        have HPG := Lib.hid (hi.out.good p (by simp))
        have HPO := Lib.hid (show (acc ++ p.t.data.toList) ++ (p.ntext ++ outS r) = T.data.toList by
          rw [← heq.out, outS_snoc]; simp [Pc.out])
        have HC1 := Lib.hid (fun (W : World) (hf : Fr Nob wr W) => (hi.out.pop).fr hf)
        have HWR := Lib.hid (show wgtL r + p.wgt = gk by rw [hgk, wgtL_app]; simp [wgtL])
        have HSM := Lib.hid (show gk ≤ 700000 by rw [hgk]; exact hwg.out)
        have HWS := Lib.hid (fun (W : World) (hf : Fr Nob wr W) => bd_WriteString w1.heap.size w1.heap.size acc p.t W (hi.out.bd.fr hf) (by omega) (by have := hf.size; omega))
        clear hi heq hwg hgk hcell hlen HTL2
        obtain ⟨pt, pq⟩ := p
        simp only [Pc.addr] at e0 e1 HPG HPO HWR HWS
        cases pq with
        | none =>
          simp only [Option.map_none] at e1
          go_wp2_with ((go_at_call 29); refine (HWS.out _ ((Fr.refl _ _).alloc _)).mono ?_; rintro e w3 ⟨rfl, hb3, hl3, hk3⟩; have q1 : w3.cell? ⟨wr.heap.size, 1, none⟩ = some (.pointer none) := (BdKeep.blk hk3 (Blk.new wr _ _) (by omega) (by decide)).cell 1)
          have HI := Lib.hid ((HC1.out _ ((Fr.refl _ _).alloc _)).write hb3 hl3 hk3)
          have HE := Lib.hid (show (acc ++ pt.data.toList) ++ outS r = T.data.toList by simpa [Pc.ntext] using HPO.out)
          have HM := Lib.hid (show wgtL r < gk by have := HWR.out; simp only [Pc.wgt] at this; omega)
          have HM2 := Lib.hid (show wgtL r ≤ 700000 by have := HM.out; have := HSM.out; omega)
          clear hb3 hl3 hk3
          go_roundg (wgtL r)
          case rel => exact ⟨_, _, r, _, rfl, rfl, HI, HE, HM2⟩
          case measure => exact HM.out
        | some n =>
          obtain ⟨y, B, d, js, kb, ko⟩ := n
          simp only [Option.map_some] at e1
          have HPT := Lib.hid (fun (W : World) (hb : Below w1.heap.size w1 W) (h : NodeAt w1.heap.size W y B d js kb ko) => prg_parts w1.heap.size W (HVV.out.below hb (Nat.le_refl _)) (HTB.out.below hb (Nat.le_refl _)) kb ko y B d js h)
          go_wp2_with (first | ((go_at_call 29); refine (HWS.out _ ((Fr.refl _ _).alloc _)).mono ?_; rintro e w3 ⟨rfl, hb3, hl3, hk3⟩; have q1 : w3.cell? ⟨wr.heap.size, 1, none⟩ = some (.pointer (some ⟨kb, ko, none⟩)) := (BdKeep.blk hk3 (Blk.new wr _ _) (by omega) (by decide)).cell 1; have HI := Lib.hid ((HC1.out _ ((Fr.refl _ _).alloc _)).write hb3 hl3 hk3); have HNA := Lib.hid ((Pc.good.below HPG.out (((Below.refl w1.heap.size wr).alloc (by omega) _).trans hl3)) _ rfl); have HS3 := Lib.hid hl3.size; clear hb3 hl3 hk3) | ((go_at_call 30); refine (HPT.out _ HI.out.bel HNA.out).mono ?_; intro e w4 hp; obtain ⟨l, hpo, Al, cl, rfl, hown4, hf4⟩ := hp; have HPA := Lib.hid hpo; have HO4 := Lib.hid hown4; have HF4 := Lib.hid hf4; clear hpo hown4 hf4))
          rw [List.length_map] at HO4
          have hll := HPA.out.len
          have HN := Lib.hid (show ShN w1 w4 w1.heap.size w3.heap.size (some ⟨g, 0, none⟩) c' r l 0 (acc ++ pt.data.toList) Al cl from
            ⟨by rw [List.take_zero, List.append_nil]; exact HI.out.fr HF4.out, HO4.out, fun q hq e => by
                simp only [Option.map_some, Option.some.injEq] at hq
                have h1 := (HO4.out.lt q (by cases Al <;> simp_all [Value.ownBlock])).1
                have h2 := HS3.out
                simp at h2; omega, fun q hq => (HPA.out.good q hq).below (HF4.out.below.mono (by have := HI.out.size; omega))⟩)
          have HOL := Lib.hid (HPA.out.out)
          have HWL := Lib.hid (HPA.out.wgt)
          clear HPT HI HNA HO4 HF4 HPA q1 e0 e1
          obtain ⟨wo, rfl⟩ : ∃ wo : World, wo = wr := ⟨_, rfl⟩
          go_loopw [4, 38] (fun sv iv wi => ∃ (k : Nat) (A2 : Option Addr) (c2 : Nat), k ≤ l.length ∧ iv = .int .i64 k ∧ sv = .slice A2 (r.length + k) c2 ∧ Hid (ShN w1 wi w1.heap.size w3.heap.size A2 c2 r l k (acc ++ pt.data.toList) Al cl)) (fun _ iv _ => l.length - (intOf iv).toNat)
          case atStart => exact ⟨0, _, _, Nat.zero_le _, rfl, rfl, HN⟩
          case round =>
            clear HN
            obtain ⟨k, A2, c2, hk, rfl, rfl, hn⟩ := hrel
            by_cases hlt : k < l.length
            · have hI : (k : Int) < l.length := by omega
              have hI3 : 0 ≤ (k : Int) := by omega
              obtain ⟨gl, rfl, hgl1, hgl2, hlc2, hcm2, hcell⟩ := own_get hn.out.own (by omega)
              have hgt := stp_get (l := l) (k := l.length - 1 - k) (by omega)
              have c0 := hcell _ _ hgt.1
              have c1 := hcell _ _ hgt.2
              have hN := Lib.hid (fun A5 c5 w5 cs (h1 : w5.ownsRow (w1.heap.size + 1) 61 2 (.slice A5 (r.length + k + 1) c5) (r.length + k + 1) (stp (r ++ l.reverse.take k) ++ ptc l[l.length - 1 - k].pt)) (h2 : (wr.alloc (.cells cs 61)).grownBy w5 (A2.map (·.block))) h3 => hn.out.push hlt h1 h2 h3)
              have HOW := Lib.hid (show wr.ownsRow (w1.heap.size + 1) 61 2 (.slice A2 (r.length + k) c2) (r.length + k) (stp (r ++ l.reverse.take k)) by
                have h := hn.out.c.own
                rwa [show (r ++ l.reverse.take k).length = r.length + k by simp; omega] at h)
              have hws := hn.out.c.size
              clear hgt hcell hn
              generalize hpc : l[l.length - 1 - k] = pc at *
              go_wp2_with (at_builtin; refine wpList_app rfl _ _ 62 rfl elemPt (base := w1.heap.size + 1) (xs := stp (r ++ l.reverse.take k)) (news := ptc pc.pt) rfl (HOW.out.alloc _) rfl ?src ?one ?h63 ?hby ?hbase ?_)
              case src => exact (show Sl _ 2 _ 1 1 (ptc pc.pt) from Sl.new1 (Blk.new _ _ _) 2 1 rfl (by decide))
              case one => intro u hu; simp [ptc] at hu; rcases hu with rfl | rfl <;> rfl
              case h63 => unfold maxLen; omega
              case hby => omega
              case hbase => simp; omega
              intro A5 c5 w5 hown5 hg5 hl5
              have HN2 := Lib.hid (hN.out _ _ _ _ hown5 hg5 hl5)
              clear hown5 hg5 hl5
              go_wp2_with fail
              go_roundw
              case rel => exact ⟨k + 1, A5, c5, by omega, by go_num, rfl, HN2⟩
              case measure => simp [intOf]; omega
            · have hkk : k = l.length := by omega
              have HC2 := Lib.hid (show ShC w1 wr w1.heap.size A2 c2 (r ++ l.reverse) (acc ++ pt.data.toList) by
                have h := hn.out.c
                rwa [hkk, List.take_of_length_le (by simp)] at h)
              have HE2 := Lib.hid (show (acc ++ pt.data.toList) ++ outS (r ++ l.reverse) = T.data.toList by
                rw [outS_app, show outS l.reverse = outL l by simp [outS], HOL.out]; exact HPO.out)
              have HM2 := Lib.hid (show wgtL (r ++ l.reverse) < gk by
                have h1 := HWR.out; have h2 := HWL.out
                simp only [Pc.wgt] at h1
                rw [wgtL_app, wgtL_rev]; omega)
              have HM3 := Lib.hid (show wgtL (r ++ l.reverse) ≤ 700000 by have := HM2.out; have := HSM.out; omega)
              have HLL := Lib.hid (show r.length + k = (r ++ l.reverse).length by simp; omega)
              clear hn hkk
              go_wp2_with fail
              go_roundg (wgtL (r ++ l.reverse))
              case rel => exact ⟨A2, c2, r ++ l.reverse, _, by rw [HLL.out], rfl, HC2, HE2, HM3⟩
              case measure => exact HM2.out
end Go.Proofs.YtdiapojppmoghaaDoor
