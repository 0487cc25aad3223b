/- formula.Show's pieces: sign, leaf, kid, parts. -/
import Derived.Test.YtdiapojppmoghaaDoorFmt
import Derived.Deep.QuietTactic
namespace Go.Proofs.YtdiapojppmoghaaDoor
open Go.RowKit Go.Shelf

set_option maxHeartbeats 2000000 in
theorem prg_sign (w : World) (b off : Nat) (x : Nd) (A : Option Addr) (n c : Nat) (hx : NdOk x) (h4 : 4 ≤ x.op) (h12 : x.op ≤ 12) (ht : TbVar w) (hn : NdAt w b off x A n c) :
    Calls Tryd.prog 43 #[.pointer (some ⟨b, off, none⟩)] w fun e w' => e = .returned (.string (signT x)) ∧ Fr Nob w w' := by
  obtain ⟨d0, d1, d2, d3, d4, d5, d6⟩ := hn
  have hss := spanT_size hx.lo hx.hi
  have HC := Lib.hid (fun W (h : Fr Nob w W) => sat_Text W x.lo x.hi hx.lo hx.hi (ht.fr h))
  clear hx ht
  obtain ⟨op, nm, cm, va, lo, hi⟩ := x
  simp only at *
  have ho : op = 4 ∨ op = 5 ∨ op = 6 ∨ op = 7 ∨ op = 8 ∨ op = 9 ∨ op = 10 ∨ op = 11 ∨ op = 12 := by omega
  have k1 := cat_ok ⟨#[70]⟩ (spanT lo hi) (by rw [sz1]; omega)
  have k2 := cat_ok (⟨#[70]⟩ ++ spanT lo hi) ⟨#[32]⟩ (by simp only [ByteArray.size_append, sz1]; omega)
  have k3 := cat_ok ⟨#[71]⟩ (spanT lo hi) (by rw [sz1]; omega)
  have k4 := cat_ok (⟨#[71]⟩ ++ spanT lo hi) ⟨#[32]⟩ (by simp only [ByteArray.size_append, sz1]; omega)
  have k5 := cat_ok ⟨#[85]⟩ (spanT lo hi) (by rw [sz1]; omega)
  have k6 := cat_ok ⟨#[82]⟩ (spanT lo hi) (by rw [sz1]; omega)
  unfold signT
  simp only
  clear hss h4 h12
  generalize spanT lo hi = sp at *
  rcases ho with rfl | rfl | rfl | rfl | rfl | rfl | rfl | rfl | rfl
  all_goals
    go_enter Tryd.func43, Tryd.ntmps43
    go_wp2_with ((go_at_call 52); refine (HC.out _ (Fr.refl _ _)).mono ?_; rintro e w1 ⟨rfl, hf1⟩)
    go_ret
    exact ⟨rfl, by first | exact Fr.refl _ _ | exact hf1⟩
set_option maxHeartbeats 2000000 in
theorem prg_leaf (w : World) (b off : Nat) (x : Nd) (A : Option Addr) (n c : Nat) (hx : NdOk x) (h4 : 1 ≤ x.op) (h12 : x.op ≤ 3) (hsz : x.name.size ≤ 1000000) (ht : TbVar w) (hn : NdAt w b off x A n c) :
    Calls Tryd.prog 42 #[.pointer (some ⟨b, off, none⟩)] w fun e w' => e = .returned (.string (leafT x)) ∧ Fr Nob w w' := by
  obtain ⟨d0, d1, d2, d3, d4, d5, d6⟩ := hn
  have HS := Lib.hid (fun W => prg_compare W x.cmp)
  have HD := Lib.hid (fun W (h : Fr Nob w W) => sc_Format W x.val hx.val (ht.fr h))
  have s1 := digB_size hx.val
  have s2 := cmpT_size x.cmp
  have k1 := cat_ok x.name ⟨#[32]⟩ (by rw [sz1]; omega)
  have k2 := cat_ok (x.name ++ ⟨#[32]⟩) (cmpT x.cmp) (by simp only [ByteArray.size_append, sz1]; omega)
  have k3 := cat_ok (x.name ++ ⟨#[32]⟩ ++ cmpT x.cmp) ⟨#[32]⟩ (by simp only [ByteArray.size_append, sz1]; omega)
  have k4 := cat_ok (x.name ++ ⟨#[32]⟩ ++ cmpT x.cmp ++ ⟨#[32]⟩) (digB x.val) (by simp only [ByteArray.size_append, sz1]; omega)
  unfold leafT
  clear s1 s2 hx ht hsz
  obtain ⟨op, nm, cm, va, lo, hi⟩ := x
  simp only at *
  generalize digB va = dv at *
  generalize cmpT cm = ct at *
  rcases (show op = 1 ∨ op = 2 ∨ op = 3 by omega) with rfl | rfl | rfl
  · clear h4 h12
    go_enter Tryd.func42, Tryd.ntmps42
    go_wp2_with fail
    go_ret
    exact ⟨rfl, Fr.refl _ _⟩
  · clear h4 h12
    go_enter Tryd.func42, Tryd.ntmps42
    go_wp2_with fail
    go_ret
    exact ⟨rfl, Fr.refl _ _⟩
  · clear h4 h12
    by_cases hc : cm = 0
    · subst hc
      go_enter Tryd.func42, Tryd.ntmps42
      go_wp2_with fail
      go_ret
      exact ⟨rfl, Fr.refl _ _⟩
    · have hc' : (cm == 0) = false := by simpa using hc
      rw [if_neg (by decide), if_neg (by decide), if_neg hc]
      clear hc
      go_enter Tryd.func42, Tryd.ntmps42
      go_wp2_with fail
      go_region_held3 (fun w' => w'.cell? ⟨b, off + 1, none⟩ = some (.string nm) ∧ w'.cell? ⟨b, off + 2, none⟩ = some (.int .i64 cm) ∧ w'.cell? ⟨b, off + 3, none⟩ = some (.int .i64 va))
        (first | go_keep | (go_split_ands; refine ⟨?_, ?_, ?_⟩ <;> exact Fr.cell hf1 (by assumption) (fun e => e)))
        (first | ((go_at_call 50); refine (HS.out _).mono ?_; rintro e w1 ⟨rfl, rfl⟩) | ((go_at_call 51); refine (HD.out _ (Fr.refl _ _).drew).mono ?_; rintro e w1 ⟨rfl, hf1⟩))
      go_wp2_with fail
      go_ret
      exact ⟨rfl, (Fr.refl _ _).drew.call hf1 (fun _ h _ => h)⟩

/-- A piece of a text: bytes, and a node whose text stands behind them. -/
structure Pt where
  t : ByteArray
  q : Option Addr
def ptc (p : Pt) : List Value := [.string p.t, .pointer p.q]
theorem ptc_len (p : Pt) : (ptc p).length = 2 := rfl
def prow (l : List Pt) : List Value := l.flatMap ptc
theorem prow_len (l : List Pt) : (prow l).length = l.length * 2 := by
  induction l with
  | nil => rfl
  | cons e r ih => rw [prow, List.flatMap_cons, List.length_append, ptc_len]; rw [prow] at ih; rw [ih, List.length_cons]; omega
theorem prow_app (l m : List Pt) : prow (l ++ m) = prow l ++ prow m := by simp [prow]
theorem prow_one (l : List Pt) : ∀ u ∈ prow l, u.oneCell' = true := by
  intro u hu
  simp only [prow, List.mem_flatMap] at hu
  obtain ⟨p, _, hu⟩ := hu
  simp [ptc] at hu
  rcases hu with rfl | rfl <;> rfl
def kidP (p : Int) (o : Int) (a : Addr) : List Pt := if placeN o < p then [⟨⟨#[40]⟩, some a⟩, ⟨⟨#[41]⟩, none⟩] else [⟨⟨#[]⟩, some a⟩]
theorem kidP_len (p o : Int) (a : Addr) : 1 ≤ (kidP p o a).length ∧ (kidP p o a).length ≤ 2 := by unfold kidP; split <;> simp
theorem elemPt : ElemT Tryd.prog 62 61 2 24 := ElemT.mk (z := .agg #[.string ⟨#[]⟩, .pointer none]) Tryd.underlying62 (by kernel_rfl) (by kernel_rfl) (by decide)
/-- The pieces that a call hands back, in memory of its own. -/
def PartsAt (w w' : World) (e : Ending) (l : List Pt) : Prop := ∃ A c, e = .returned (.slice A l.length c) ∧ w'.ownsRow w.heap.size 61 2 (.slice A l.length c) l.length (prow l) ∧ Fr Nob w w'
theorem parts_new {w : World} {e : Ending} {l : List Pt} {k : Nat} {cs : Array Value} (he : e = .returned (.slice (some ⟨w.heap.size, 0, none⟩) l.length l.length)) (hl : l.length ≤ 1000) (hc : cs.toList = prow l) : PartsAt w ((w.drewN k).alloc (.cells cs 61)) e l := by
  refine ⟨_, _, he, ⟨prow_len l, .inr ⟨w.heap.size, l.length, cs, rfl, Nat.le_refl _, ?_, Nat.le_refl _, by unfold maxLen; omega, ?_, ?_⟩⟩, ((Fr.refl _ _).drewN _).alloc _⟩
  · exact heap_alloc_new (w.drewN k) _
  · rw [← Array.length_toList, hc, prow_len]
  · rw [hc, List.take_of_length_le (by rw [prow_len]; exact Nat.le_refl _)]
theorem own_new1 {w : World} {base n : Nat} {l : List Value} {cs : Array Value} (hb : base ≤ w.heap.size) (hn : n ≤ 1000) (hl : l.length = n * 2) (hc : cs.toList = l) : (w.alloc (.cells cs 61)).ownsRow base 61 2 (.slice (some ⟨w.heap.size, 0, none⟩) n n) n l := by
  refine ⟨hl, .inr ⟨w.heap.size, n, cs, rfl, hb, heap_alloc_new w _, Nat.le_refl _, by unfold maxLen; omega, ?_, ?_⟩⟩
  · rw [← Array.length_toList, hc, hl]
  · rw [hc, List.take_of_length_le (by rw [hl]; exact Nat.le_refl _)]
theorem parts_own {w w' : World} {l : List Pt} {A : Option Addr} {n c : Nat} (hn : n = l.length) (h : w'.ownsRow w.heap.size 61 2 (.slice A n c) n (prow l)) (hf : Fr Nob w w') : PartsAt w w' (.returned (.slice A n c)) l := by
  subst hn; exact ⟨A, c, rfl, h, hf⟩
theorem parts_new' {w w1 : World} {e : Ending} {l : List Pt} {cs : Array Value} (hf : Fr Nob w w1) (he : e = .returned (.slice (some ⟨w1.heap.size, 0, none⟩) l.length l.length)) (hl : l.length ≤ 1000) (hc : cs.toList = prow l) : PartsAt w (w1.alloc (.cells cs 61)) e l :=
  ⟨_, _, he, own_new1 hf.size hl (prow_len l) hc, hf.alloc _⟩
theorem shape_place : ∀ k (h : k < shapeL.length), 1 ≤ k → shapeL[k].2.1 = placeN k ∧ (kidsN k ≠ 0 → shapeL[k].2.2.1 = pl0 k) ∧ (kidsN k = 2 → shapeL[k].2.2.2 = pl1 k) := by
  intro k h
  simp only [shapeL, List.length_cons, List.length_nil] at h
  have : k = 0 ∨ k = 1 ∨ k = 2 ∨ k = 3 ∨ k = 4 ∨ k = 5 ∨ k = 6 ∨ k = 7 ∨ k = 8 ∨ k = 9 ∨ k = 10 ∨ k = 11 ∨ k = 12 := by omega
  rcases this with rfl | rfl | rfl | rfl | rfl | rfl | rfl | rfl | rfl | rfl | rfl | rfl | rfl <;> intro _ <;> first | omega | (refine ⟨rfl, ?_, ?_⟩ <;> intro h <;> first | rfl | (exfalso; revert h; decide))
set_option maxHeartbeats 2000000 in
theorem prg_kid (w : World) (hv : ShVar w) (b off : Nat) (x : Nd) (kb ko : Nat) (n c : Nat) (hn : NdAt w b off x (some ⟨kb, ko, none⟩) n c) (i : Nat) (hi : i = 0 ∨ i = 1) (hin : i < n) (hx : 1 ≤ x.op ∧ x.op ≤ 12) (hk0 : kidsN x.op ≠ 0) (hk1 : i = 1 → kidsN x.op = 2)
    (y : Nd) (B : Option Addr) (m d : Nat) (hy : NdAt w kb (ko + i * 7) y B m d) (hyo : 1 ≤ y.op ∧ y.op ≤ 12) :
    Calls Tryd.prog 44 #[.pointer (some ⟨b, off, none⟩), .int .i64 i] w fun e w' => PartsAt w w' e (kidP (if i = 0 then pl0 x.op else pl1 x.op) y.op ⟨kb, ko + i * 7, none⟩) := by
  obtain ⟨d0, d1, d2, d3, d4, d5, d6⟩ := hn
  obtain ⟨t0, t1, t2, t3, t4, t5, t6⟩ := hy
  obtain ⟨k, hk⟩ : ∃ k : Nat, x.op = k := ⟨x.op.toNat, by omega⟩
  obtain ⟨l, hl⟩ : ∃ l : Nat, y.op = l := ⟨y.op.toNat, by omega⟩
  have hkl : k < shapeL.length := by simp [shapeL]; omega
  have hll : l < shapeL.length := by simp [shapeL]; omega
  have s1 := (hv l hll).2.1
  rw [(shape_place l hll (by omega)).1] at s1
  rw [hk] at d0 hk0 hk1 ⊢
  rw [hl] at t0 ⊢
  have hk13 : (k : Int) < 13 := by omega
  have hk00 : (0 : Int) ≤ k := by omega
  have hl13 : (l : Int) < 13 := by omega
  have hl00 : (0 : Int) ≤ l := by omega
  have hin' : (i : Int) < n := by omega
  have hi0 : (0 : Int) ≤ i := by omega
  have hi2 : (i : Int) < 2 := by omega
  have s2 : w.cell? ⟨0, k * 4 + 2 + i, none⟩ = some (.int .i64 (if i = 0 then pl0 k else pl1 k)) := by
    have hp := shape_place k hkl (by omega)
    rcases hi with rfl | rfl
    · rw [if_pos rfl, ← hp.2.1 hk0]; exact (hv k hkl).2.2.1
    · rw [if_neg (by decide), ← hp.2.2 (hk1 rfl)]; exact (hv k hkl).2.2.2
  generalize (if i = 0 then pl0 (k : Int) else pl1 (k : Int)) = p at *
  generalize hpl : placeN (l : Int) = q at *
  clear hx hyo hv hkl hll hi hk0 hk1 hk hl
  by_cases hq : q < p
  · have HR := Lib.hid (show kidP p l ⟨kb, ko + i * 7, none⟩ = [⟨⟨#[40]⟩, some ⟨kb, ko + i * 7, none⟩⟩, ⟨⟨#[41]⟩, none⟩] by unfold kidP; rw [hpl, if_pos hq])
    clear hpl
    go_enter Tryd.func44, Tryd.ntmps44
    go_wp2_with fail
    go_quiet (fail)
    go_wp2_with fail
    go_ret
    rw [HR.out]
    exact parts_new rfl (by simp) (by simp [prow, ptc])
  · have HR := Lib.hid (show kidP p l ⟨kb, ko + i * 7, none⟩ = [⟨⟨#[]⟩, some ⟨kb, ko + i * 7, none⟩⟩] by unfold kidP; rw [hpl, if_neg hq])
    have hq' : p ≤ q := by omega
    clear hpl hq
    go_enter Tryd.func44, Tryd.ntmps44
    go_wp2_with fail
    go_quiet (fail)
    go_wp2_with fail
    go_ret
    rw [HR.out]
    exact parts_new rfl (by simp) (by simp [prow, ptc])
/-- The pieces of a node's text. -/
def partsN (x : Nd) (ks : Fo) (kb ko : Nat) : List Pt :=
  if kidsN x.op = 0 then [⟨leafT x, none⟩]
  else match ks with
    | .cons y _ _ _ rs => if kidsN x.op = 1 then [⟨signT x, none⟩] ++ kidP (pl0 x.op) y.op ⟨kb, ko, none⟩
      else match rs with
        | .cons z _ _ _ _ => kidP (pl0 x.op) y.op ⟨kb, ko, none⟩ ++ [⟨⟨#[32]⟩ ++ signT x ++ ⟨#[32]⟩, none⟩] ++ kidP (pl1 x.op) z.op ⟨kb, ko + 7, none⟩
        | .nil => []
    | .nil => []
set_option maxHeartbeats 2000000 in
theorem prg_parts0 (w : World) (hv : ShVar w) (ht : TbVar w) (b off : Nat) (x : Nd) (A : Option Addr) (c : Nat) (ks : Fo) (hok : TxOk x ks) (hn : NdAt w b off x A ks.len c) (h0 : kidsN x.op = 0) :
    Calls Tryd.prog 30 #[.pointer (some ⟨b, off, none⟩)] w fun e w' => PartsAt w w' e [⟨leafT x, none⟩] := by
  have hop := wrong_op hok.wr
  have hop3 : x.op ≤ 3 := by unfold kidsN at h0; split at h0; assumption; split at h0 <;> omega
  obtain ⟨k, hk⟩ : ∃ k : Nat, x.op = k := ⟨x.op.toNat, by omega⟩
  have HL := Lib.hid (fun W (hf : Fr Nob w W) => prg_leaf W b off x A ks.len c hok.nd hop.1 hop3 (by have := hok.wt; omega) (ht.fr hf) (hn.fr hf))
  have hkl : k < shapeL.length := by simp [shapeL]; omega
  have s1 := (hv k hkl).1
  rw [shape_kids, ← hk, h0] at s1
  have hk13 : (k : Int) < 13 := by omega
  have hk00 : (0 : Int) ≤ k := by omega
  have d0 := hn.h0
  rw [hk] at d0
  clear hv ht hn hok hop h0 hop3 hk hkl
  go_enter Tryd.func30, Tryd.ntmps30
  go_wp2_with ((go_at_call 42); refine (HL.out _ (Fr.refl _ _)).mono ?_; rintro e w1 ⟨rfl, hf1⟩)
  go_ret
  exact parts_new' hf1 rfl (by simp) rfl
set_option maxRecDepth 100000 in
set_option maxHeartbeats 4000000 in
theorem prg_parts1 (w : World) (hv : ShVar w) (ht : TbVar w) (b off : Nat) (x : Nd) (kb ko : Nat) (c : Nat) (ks : Fo) (hok : TxOk x ks) (hn : NdAt w b off x (some ⟨kb, ko, none⟩) ks.len c) (h1 : kidsN x.op = 1)
    (y : Nd) (B : Option Addr) (m d : Nat) (hy : NdAt w kb ko y B m d) (hyo : 1 ≤ y.op ∧ y.op ≤ 12) :
    Calls Tryd.prog 30 #[.pointer (some ⟨b, off, none⟩)] w fun e w' => PartsAt w w' e ([⟨signT x, none⟩] ++ kidP (pl0 x.op) y.op ⟨kb, ko, none⟩) := by
  have hop := wrong_op hok.wr
  have ho := op_one (by omega) h1
  obtain ⟨k, hk⟩ : ∃ k : Nat, x.op = k := ⟨x.op.toNat, by omega⟩
  have HL := Lib.hid (fun W (hf : Fr Nob w W) => prg_sign W b off x (some ⟨kb, ko, none⟩) ks.len c hok.nd (by omega) hop.2.1 (ht.fr hf) (hn.fr hf))
  have HK := Lib.hid (fun W (hf : Fr Nob w W) => prg_kid W (hv.fr hf) b off x kb ko ks.len c (hn.fr hf) 0 (.inl rfl) (by omega) ⟨hop.1, hop.2.1⟩ (by omega) (by omega) y B m d (by simpa using hy.fr hf) hyo)
  simp only [Nat.zero_mul, Nat.add_zero, if_true, Int.natCast_zero] at HK
  have hkl : k < shapeL.length := by simp [shapeL]; omega
  have s1 := (hv k hkl).1
  rw [shape_kids, ← hk, h1] at s1
  have hk13 : (k : Int) < 13 := by omega
  have hk00 : (0 : Int) ≤ k := by omega
  have d0 := hn.h0
  rw [hk] at d0
  have hll := (kidP_len (pl0 x.op) y.op ⟨kb, ko, none⟩).2
  clear hv ht hn hok hop h1 hk hkl ho hy hyo
  generalize kidP (pl0 x.op) y.op ⟨kb, ko, none⟩ = L at *
  generalize signT x = sx at *
  go_enter Tryd.func30, Tryd.ntmps30
  go_wp2_with (first | ((go_at_call 43); refine (HL.out _ (Fr.refl _ _)).mono ?_; rintro e w1 ⟨rfl, hf1⟩) | ((go_at_call 44); refine (HK.out _ (hf1.alloc _)).mono ?_; intro e w2 hp; obtain ⟨A2, c2, rfl, hown2, hf2⟩ := hp; have HO2 := Lib.hid hown2; have HF2 := Lib.hid hf2; clear hown2 hf2) | (at_builtin; refine wpList_app rfl _ _ 62 rfl elemPt (base := w.heap.size) (xs := prow [⟨sx, none⟩]) (news := prow L) rfl ?own rfl (Sl.of_own HO2.out) (prow_one _) ?h63 ?hby ?hbase ?_))
  case own => exact own_fr (own_new1 (by have := hf1.size; omega) (by simp) (prow_len [⟨sx, none⟩]) rfl) HF2.out (fun _ _ _ _ e => e)
  case h63 => unfold maxLen; omega
  case hby => omega
  case hbase => have h1 := hf1.size; have h2 := HF2.out.size; simp at h2; omega
  intro A4 c4 w4 hown4 hg4 _
  have HP := Lib.hid (show PartsAt w w4 (.returned (.slice A4 (1 + L.length) c4)) ([⟨sx, none⟩] ++ L) from parts_own (by simp; omega) (by rw [prow_app]; exact hown4) (((hf1.alloc _).call HF2.out (fun _ h _ => h)).grown hg4 (fun k e hlt => by simp at e; have h1 := hf1.size; omega)))
  clear hown4 hg4
  go_wp2_with fail
  go_ret
  exact HP.out
set_option maxRecDepth 100000 in
set_option maxHeartbeats 8000000 in
theorem prg_parts2 (w : World) (hv : ShVar w) (ht : TbVar w) (b off : Nat) (x : Nd) (kb ko : Nat) (c : Nat) (ks : Fo) (hok : TxOk x ks) (hn : NdAt w b off x (some ⟨kb, ko, none⟩) ks.len c) (h2 : kidsN x.op = 2)
    (y : Nd) (B : Option Addr) (m d : Nat) (hy : NdAt w kb ko y B m d) (hyo : 1 ≤ y.op ∧ y.op ≤ 12) (z : Nd) (D : Option Addr) (m' d' : Nat) (hz : NdAt w kb (ko + 7) z D m' d') (hzo : 1 ≤ z.op ∧ z.op ≤ 12) :
    Calls Tryd.prog 30 #[.pointer (some ⟨b, off, none⟩)] w fun e w' => PartsAt w w' e (kidP (pl0 x.op) y.op ⟨kb, ko, none⟩ ++ [⟨⟨#[32]⟩ ++ signT x ++ ⟨#[32]⟩, none⟩] ++ kidP (pl1 x.op) z.op ⟨kb, ko + 7, none⟩) := by
  have hop := wrong_op hok.wr
  have ho := op_two ⟨hop.1, hop.2.1⟩ (by omega) (by omega)
  obtain ⟨k, hk⟩ : ∃ k : Nat, x.op = k := ⟨x.op.toNat, by omega⟩
  have HL := Lib.hid (fun W (hf : Fr Nob w W) => prg_sign W b off x (some ⟨kb, ko, none⟩) ks.len c hok.nd (by omega) hop.2.1 (ht.fr hf) (hn.fr hf))
  have HK := Lib.hid (fun W (hf : Fr Nob w W) => prg_kid W (hv.fr hf) b off x kb ko ks.len c (hn.fr hf) 0 (.inl rfl) (by omega) ⟨hop.1, hop.2.1⟩ (by omega) (by omega) y B m d (by simpa using hy.fr hf) hyo)
  have HJ := Lib.hid (fun W (hf : Fr Nob w W) => prg_kid W (hv.fr hf) b off x kb ko ks.len c (hn.fr hf) 1 (.inr rfl) (by omega) ⟨hop.1, hop.2.1⟩ (by omega) (by omega) z D m' d' (by simpa using hz.fr hf) hzo)
  simp only [Nat.zero_mul, Nat.one_mul, Nat.add_zero, if_true, Int.natCast_zero, Int.natCast_one, Nat.one_ne_zero, if_false] at HK HJ
  have hkl : k < shapeL.length := by simp [shapeL]; omega
  have s1 := (hv k hkl).1
  rw [shape_kids, ← hk, h2] at s1
  have hk13 : (k : Int) < 13 := by omega
  have hk00 : (0 : Int) ≤ k := by omega
  have d0 := hn.h0
  rw [hk] at d0
  have hss := signT_size hok.nd
  have hll := (kidP_len (pl0 x.op) y.op ⟨kb, ko, none⟩).2
  have hmm := (kidP_len (pl1 x.op) z.op ⟨kb, ko + 7, none⟩).2
  have k1 := cat_ok ⟨#[32]⟩ (signT x) (by rw [sz1]; omega)
  have k2 := cat_ok (⟨#[32]⟩ ++ signT x) ⟨#[32]⟩ (by simp only [ByteArray.size_append, sz1]; omega)
  clear hv ht hn hok hop h2 hk hkl ho hy hyo hz hzo hss
  generalize kidP (pl0 x.op) y.op ⟨kb, ko, none⟩ = L at *
  generalize kidP (pl1 x.op) z.op ⟨kb, ko + 7, none⟩ = M at *
  generalize signT x = sx at *
  have HSP := Lib.hid (show ([⟨⟨#[32]⟩ ++ sx ++ ⟨#[32]⟩, none⟩] : List Pt).length = 1 from rfl)
  obtain ⟨sp, hsp⟩ : ∃ sp : List Pt, [⟨⟨#[32]⟩ ++ sx ++ ⟨#[32]⟩, none⟩] = sp := ⟨_, rfl⟩
  have HSQ := Lib.hid (show (#[.string (⟨#[32]⟩ ++ sx ++ ⟨#[32]⟩), .pointer none] : Array Value).toList = prow sp by rw [← hsp]; rfl)
  rw [hsp] at HSP ⊢
  clear hsp
  go_enter Tryd.func30, Tryd.ntmps30
  go_wp2_with (first | ((go_at_call 43); refine (HL.out _ hf1).mono ?_; rintro e w2 ⟨rfl, hf2⟩) | ((go_at_call 44); refine (HK.out _ (Fr.refl _ _)).mono ?_; intro e w1 hp; obtain ⟨A1, c1, rfl, hown1, hf1⟩ := hp; have HO1 := Lib.hid hown1; clear hown1) | (at_builtin; refine wpList_app rfl _ _ 62 rfl elemPt (base := w.heap.size) (xs := prow L) (news := prow sp) rfl ?own rfl ?src (prow_one _) ?h63 ?hby ?hbase ?_))
  case own => exact World.ownsRow.alloc (own_fr HO1.out hf2 (fun _ _ _ _ e => e)) _
  case src => exact Sl.of_own (own_new1 (base := w.heap.size) (by have h1 := hf1.size; have h2 := hf2.size; omega) (by simp) (by rw [prow_len, HSP.out]) HSQ.out)
  case h63 => unfold maxLen; omega
  case hby => omega
  case hbase => have h1 := hf1.size; have h2 := hf2.size; simp; omega
  intro A3 c3 w3 hown3 hg3 _
  have hf3 : Fr Nob w w3 := ((hf1.call hf2 (fun _ h _ => h)).alloc _).grown hg3 (fun k e hlt => by have := own_base HO1.out k e; omega)
  have HO3 := Lib.hid hown3
  clear hown3 hg3
  go_wp2_with (first | ((go_at_call 44); refine (HJ.out _ hf3).mono ?_; intro e w4 hp; obtain ⟨A4, c4, rfl, hown4, hf4⟩ := hp; have HO4 := Lib.hid hown4; clear hown4) | (at_builtin; refine wpList_app rfl _ _ 62 rfl elemPt (base := w.heap.size) (xs := prow L ++ prow sp) (news := prow M) rfl ?own rfl (Sl.of_own HO4.out) (prow_one _) ?h63 ?hby ?hbase ?_))
  case own => exact own_fr HO3.out hf4 (fun _ _ _ _ e => e)
  case h63 => unfold maxLen; omega
  case hby => omega
  case hbase => have h1 := hf3.size; have h2 := hf4.size; omega
  intro A5 c5 w5 hown5 hg5 _
  have HP := Lib.hid (show PartsAt w w5 (.returned (.slice A5 (L.length + 1 + M.length) c5)) (L ++ sp ++ M) from parts_own (by simp only [List.length_append, HSP.out]) (by rw [prow_app, prow_app, List.append_assoc]; exact hown5) ((hf3.call hf4 (fun _ h _ => h)).grown hg5 (fun k e hlt => by have := own_base HO3.out k e; omega)))
  clear hown5 hg5
  go_wp2_with fail
  go_ret
  exact HP.out
end Go.Proofs.YtdiapojppmoghaaDoor
