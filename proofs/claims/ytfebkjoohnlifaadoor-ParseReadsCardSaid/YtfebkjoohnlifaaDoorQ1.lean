/- parse's reader: its state, and its smallest acts. -/
import Derived.Test.YtfebkjoohnlifaaDoorTread
import Derived.Test.YtfebkjoohnlifaaDoorPtot
import Derived.Test.YtfebkjoohnlifaaDoorFplainw2
namespace Go.Proofs.YtfebkjoohnlifaaDoor
open Go.RowKit Go.Shelf

/-- What is left of tokens from a place on. -/
def remT (toks : List (TK × Nat)) (k : Nat) : List TK := (toks.drop k).map (·.1)
/-- Tokens that end with the end. -/
structure Toks (toks : List (TK × Nat)) : Prop where
  few : toks.length ≤ 600
  ends : ∃ us p, toks = us ++ [(tk0, p)]
  ok : ∀ t ∈ toks, TOk t.1
section
variable {toks : List (TK × Nat)} {k : Nat}
theorem remT_cons (hk : k < toks.length) : remT toks k = toks[k].1 :: remT toks (k + 1) := by
  unfold remT; rw [List.drop_eq_getElem_cons hk, List.map_cons]
theorem remT_hd (hk : k < toks.length) : hd (remT toks k) = toks[k].1 := by rw [remT_cons hk]; rfl
theorem remT_tail (toks : List (TK × Nat)) (k : Nat) : (remT toks k).tail = remT toks (k + 1) := by
  unfold remT; rw [← List.map_tail, List.tail_drop]
theorem remT_len (toks : List (TK × Nat)) (k : Nat) : (remT toks k).length = toks.length - k := by simp [remT]
theorem next_lt (h : Toks toks) (hk : k < toks.length) (hn : ¬ toks[k].1.kind = 0) : k + 1 < toks.length := by
  obtain ⟨us, p, rfl⟩ := h.ends
  rw [List.length_append, List.length_singleton] at hk ⊢
  rcases Nat.lt_or_ge k us.length with hl | hl
  · omega
  · have : k = us.length := by omega
    subst this
    exact absurd (by simp [tk0]) hn
theorem toks_pos (h : Toks toks) : 0 < toks.length := by
  obtain ⟨us, p, rfl⟩ := h.ends; simp
theorem remT_ok (h : Toks toks) (k : Nat) : ∀ t ∈ remT toks k, TOk t := by
  intro t ht
  obtain ⟨x, hx, rfl⟩ := List.mem_map.1 ht
  exact h.ok x (List.mem_of_mem_drop hx)
theorem sfx_pos (h : Toks toks) {r ts : List TK} (hs : Sfx r ts) : ∀ k, k < toks.length → ts = remT toks k → ∃ j, k ≤ j ∧ j < toks.length ∧ r = remT toks j := by
  induction hs with
  | refl ts => exact fun k hk e => ⟨k, Nat.le_refl _, hk, e⟩
  | step h1 _ ih =>
    intro k hk e
    subst e
    rw [remT_hd hk] at h1
    obtain ⟨j, h2, h3, h4⟩ := ih (k + 1) (next_lt h hk h1) (remT_tail _ _)
    exact ⟨j, by omega, h3, h4⟩
end
attribute [local go_sem] Instr.field asAgg
def tokV (x : TK × Nat) : Value := .agg #[.int .i64 x.1.kind, .string ⟨x.1.text.toArray⟩, .int .i64 x.1.num, .int .i64 x.2]
/-- The reader at block R: its tokens, the next one's place; what was wrong, and where. -/
structure Rdr (w : World) (R : Nat) (A : Option Addr) (c : Nat) (toks : List (TK × Nat)) (k : Nat) (e p : Int) : Prop where
  blk : Blk w R 86 #[.slice A toks.length c, .int .i64 k, .int .i64 e, .int .i64 p]
  sl : Sl w 4 A toks.length c (toks.flatMap tcs)
  off : ∀ b o, A = some ⟨b, o, none⟩ → b ≠ R
section
variable {w w' : World} {R : Nat} {A : Option Addr} {c : Nat} {toks : List (TK × Nat)} {k k' : Nat} {e p e' p' : Int}
theorem Rdr.fr (h : Rdr w R A c toks k e p) (hf : Fr Nob w w') : Rdr w' R A c toks k e p := ⟨h.blk.fr hf (fun e => e), h.sl.pure hf, h.off⟩
theorem Rdr.only (h : Rdr w R A c toks k e p) (hf : Fr (Only R) w w') (hb : Blk w' R 86 #[.slice A toks.length c, .int .i64 k', .int .i64 e', .int .i64 p']) : Rdr w' R A c toks k' e' p' :=
  ⟨hb, h.sl.fr hf (fun b o ha _ hs => h.off b o ha hs), h.off⟩
theorem Rdr.drewN (h : Rdr w R A c toks k e p) (n : Nat) : Rdr (w.drewN n) R A c toks k e p := ⟨h.blk, h.sl.drewN n, h.off⟩
/-- A token that is looked at. -/
structure TokAt (w : World) (R : Nat) (A : Option Addr) (c : Nat) (n : Nat) (k : Nat) (e p : Int) (x : TK × Nat) (b off : Nat) : Prop where
  hA : A = some ⟨b, off, none⟩
  lt : b < w.heap.size
  r0 : w.cell? ⟨R, 0, none⟩ = some (.slice A n c)
  r1 : w.cell? ⟨R, 1, none⟩ = some (.int .i64 k)
  r2 : w.cell? ⟨R, 2, none⟩ = some (.int .i64 e)
  r3 : w.cell? ⟨R, 3, none⟩ = some (.int .i64 p)
  d0 : w.cell? ⟨b, off + k * 4, none⟩ = some (.int .i64 x.1.kind)
  d1 : w.cell? ⟨b, off + k * 4 + 1, none⟩ = some (.string ⟨x.1.text.toArray⟩)
  d2 : w.cell? ⟨b, off + k * 4 + 2, none⟩ = some (.int .i64 x.1.num)
  d3 : w.cell? ⟨b, off + k * 4 + 3, none⟩ = some (.int .i64 x.2)
theorem Rdr.tok (h : Rdr w R A c toks k e p) (hk : k < toks.length) : ∃ b off, TokAt w R A c toks.length k e p toks[k] b off := by
  obtain ⟨b, off, hA, hb, hc⟩ := Sl.row (size := 4) tcs_len h.sl hk
  exact ⟨b, off, hA, hb, h.blk.cell 0, h.blk.cell 1, h.blk.cell 2, h.blk.cell 3, by simpa using hc 0 _ rfl, by simpa [Nat.add_assoc] using hc 1 _ rfl, by simpa [Nat.add_assoc] using hc 2 _ rfl, by simpa [Nat.add_assoc] using hc 3 _ rfl⟩
end
theorem set4 {W : World} {g : Nat} {t : TypeId} {a b c d : Value} (h : Blk W g t #[a, b, c, d]) (u0 u1 u2 u3 : Value) : Blk ((((W.setCell ⟨g, 0, none⟩ u0).setCell ⟨g, 1, none⟩ u1).setCell ⟨g, 2, none⟩ u2).setCell ⟨g, 3, none⟩ u3) g t #[u0, u1, u2, u3] := by
  have := (((h.set 0 u0).set 1 u1).set 2 u2).set 3 u3
  simpa using this
theorem fr_set4 {S : Nat → Prop} {w W : World} {g : Nat} (h : Fr S w W) (hg : g < w.heap.size → S g) (u0 u1 u2 u3 : Value) : Fr S w ((((W.setCell ⟨g, 0, none⟩ u0).setCell ⟨g, 1, none⟩ u1).setCell ⟨g, 2, none⟩ u2).setCell ⟨g, 3, none⟩ u3) :=
  (((h.setCell (p := ⟨g, 0, none⟩) hg u0).setCell (p := ⟨g, 1, none⟩) hg u1).setCell (p := ⟨g, 2, none⟩) hg u2).setCell (p := ⟨g, 3, none⟩) hg u3
theorem set2 {W : World} {g : Nat} {t : TypeId} {a b : Value} (h : Blk W g t #[a, b]) (u0 u1 : Value) : Blk ((W.setCell ⟨g, 0, none⟩ u0).setCell ⟨g, 1, none⟩ u1) g t #[u0, u1] := by
  have := (h.set 0 u0).set 1 u1
  simpa using this
theorem fr_set2 {S : Nat → Prop} {w W : World} {g : Nat} (h : Fr S w W) (hg : g < w.heap.size → S g) (u0 u1 : Value) : Fr S w ((W.setCell ⟨g, 0, none⟩ u0).setCell ⟨g, 1, none⟩ u1) :=
  (h.setCell (p := ⟨g, 0, none⟩) hg u0).setCell (p := ⟨g, 1, none⟩) hg u1
theorem not_lt_self {n : Nat} {p : Prop} : n < n → p := fun h => absurd h (Nat.lt_irrefl _)
set_option maxHeartbeats 1000000 in
theorem rd_head (w : World) (R : Nat) (A : Option Addr) (c : Nat) (toks : List (TK × Nat)) (k : Nat) (e p : Int) (h : Rdr w R A c toks k e p) (hk : k < toks.length) :
    Calls Tryd.prog 46 #[.pointer (some ⟨R, 0, none⟩)] w fun en w' => en = .returned (tokV toks[k]) ∧ Fr Nob w w' := by
  obtain ⟨b, off, hT⟩ := h.tok hk
  have hR := h.blk.lt
  have hI : (k : Int) < toks.length := by omega
  have hI0 : 0 ≤ (k : Int) := by omega
  obtain ⟨rfl, hb, r0, r1, r2, r3, d0, d1, d2, d3⟩ := hT
  generalize toks[k] = x at *
  clear h
  unfold tokV
  go_enter Tryd.func46, Tryd.ntmps46
  go_wp2_with fail
  go_quiet (fail)
  go_wp2_with fail
  go_region
  all_goals
    go_wp2_with fail
    have HB := (set4 ((Blk.new w 90 #[.int .i64 0, .string ⟨#[]⟩, .int .i64 0, .int .i64 0]).drewN (nq + 1)) (.int .i64 x.1.kind) (.string ⟨x.1.text.toArray⟩) (.int .i64 x.1.num) (.int .i64 x.2)).cell
    refine bodyPost_ret (v := .agg #[.int .i64 x.1.kind, .string ⟨x.1.text.toArray⟩, .int .i64 x.1.num, .int .i64 x.2]) (by simp [results, Tryd.results46, go_sem, HB]) rfl ⟨rfl, ?_⟩
    exact fr_set4 (((Fr.refl Nob w).alloc _).drewN _) not_lt_self _ _ _ _
set_option maxHeartbeats 1000000 in
set_option maxRecDepth 100000 in
theorem rd_wrong (w : World) (R : Nat) (A : Option Addr) (c : Nat) (toks : List (TK × Nat)) (k : Nat) (e p : Int) (h : Rdr w R A c toks k e p) (hk : k < toks.length) (er : Int) :
    Calls Tryd.prog 47 #[.pointer (some ⟨R, 0, none⟩), .int .i64 er] w fun en w' => en = .returned (.bool false) ∧ Rdr w' R A c toks k er toks[k].2 ∧ Fr (Only R) w w' := by
  have hR := h.blk.lt
  have HH := Lib.hid (rd_head w R A c toks k e p h hk)
  have HB := Lib.hid (fun W (hf : Fr Nob w W) => (h.fr hf).blk)
  have HR := Lib.hid (fun W (hf : Fr (Only R) w W) hbb => h.only (k' := k) (e' := er) (p' := (toks[k]'hk).2) hf hbb)
  unfold tokV at HH
  generalize toks[k] = x at *
  clear h
  go_enter Tryd.func47, Tryd.ntmps47
  go_wp2_with ((go_at_call 46); refine (HH.out).mono ?_; rintro en w1 ⟨rfl, hf⟩; have f2 := (HB.out _ hf).frozen 2; have f3 := (HB.out _ hf).frozen 3; have c2 := (HB.out _ hf).cell 2; have c3 := (HB.out _ hf).cell 3; have HF := Lib.hid hf; have hR1 : R < w1.heap.size := Nat.lt_of_lt_of_le hR hf.size; clear hf)
  go_ret
  have hb := ((HB.out _ HF.out).set 2 (.int .i64 er)).set 3 (.int .i64 x.2)
  have hf2 := ((HF.out.mono (fun _ _ h => h.elim) : Fr (Only R) w w1).setCell (p := ⟨R, 2, none⟩) (fun _ => rfl) (.int .i64 er)).setCell (p := ⟨R, 3, none⟩) (fun _ => rfl) (.int .i64 x.2)
  exact ⟨rfl, HR.out _ hf2 (by simpa using hb), hf2⟩
/-- Is the token that sign? -/
def tsg (x : TK × Nat) (s : List UInt8) : Bool := x.1.kind == 3 && x.1.text == s
theorem sgn_rem {toks : List (TK × Nat)} {k : Nat} (hk : k < toks.length) (s : List UInt8) : sgn (remT toks k) s = tsg toks[k] s := by unfold sgn tsg; rw [remT_hd hk]
theorem ba_beq (a b : List UInt8) : ((⟨a.toArray⟩ : ByteArray).toList == (⟨b.toArray⟩ : ByteArray).toList) = (a == b) := by
  rw [ByteArray.toList_eq, ByteArray.toList_eq]
set_option maxHeartbeats 1000000 in
theorem rd_take (w : World) (R : Nat) (A : Option Addr) (c : Nat) (toks : List (TK × Nat)) (k : Nat) (e p : Int) (h : Rdr w R A c toks k e p) (hk : k < toks.length) (hfew : toks.length ≤ 600) (s : List UInt8) :
    Calls Tryd.prog 132 #[.pointer (some ⟨R, 0, none⟩), .string ⟨s.toArray⟩] w fun en w' => en = .returned (.bool (tsg toks[k] s)) ∧ Rdr w' R A c toks (if tsg toks[k] s then k + 1 else k) e p ∧ Fr (Only R) w w' := by
  have hR := h.blk.lt
  have hk6 : (k : Int) ≤ 600 := by omega
  have HH := Lib.hid (rd_head w R A c toks k e p h hk)
  have HB := Lib.hid (fun W (hf : Fr Nob w W) => (h.fr hf).blk)
  have HO := Lib.hid (fun W (hf : Fr Nob w W) => h.fr hf)
  have HR := Lib.hid (fun W (hf : Fr (Only R) w W) hbb => h.only (k' := k + 1) (e' := e) (p' := p) hf hbb)
  unfold tokV at HH
  generalize hx : toks[k] = x at *
  obtain ⟨⟨kd, tx, nm⟩, pl⟩ := x
  dsimp only at HH
  clear h hx
  unfold tsg
  dsimp only
  by_cases h3 : kd = 3
  · subst h3
    cases hs : tx == s
    · go_enter Tryd.func132, Tryd.ntmps132
      go_wp2_with ((go_at_call 46); refine (HH.out).mono ?_; rintro en w1 ⟨rfl, hf⟩)
      go_ret
      exact ⟨rfl, HO.out _ (hf.alloc _), (hf.alloc _).mono (fun _ _ h => h.elim)⟩
    · go_enter Tryd.func132, Tryd.ntmps132
      go_wp2_with ((go_at_call 46); refine (HH.out).mono ?_; rintro en w1 ⟨rfl, hf⟩; have HF := Lib.hid hf; have f1 := (HB.out _ hf).frozen 1; have c1 : w1.cell? ⟨R, 1, none⟩ = some (.int .i64 k) := (HB.out _ hf).cell 1; have hR1 : R < w1.heap.size := Nat.lt_of_lt_of_le hR hf.size; clear hf)
      go_ret
      have hb := ((HB.out _ HF.out).set 1 (.int .i64 ((k : Int) + 1))).alloc (.cells #[.int .i64 3, .string ⟨tx.toArray⟩, .int .i64 nm, .int .i64 pl] 90)
      have hf2 := ((HF.out.mono (fun _ _ h => h.elim) : Fr (Only R) w _).setCell (p := ⟨R, 1, none⟩) (fun _ => rfl) (.int .i64 ((k : Int) + 1))).alloc (.cells #[.int .i64 3, .string ⟨tx.toArray⟩, .int .i64 nm, .int .i64 pl] 90)
      exact ⟨rfl, HR.out _ hf2 (by simpa using hb), hf2⟩
  · have h3' : (kd == 3) = false := by simpa using h3
    rw [h3']
    go_enter Tryd.func132, Tryd.ntmps132
    go_wp2_with ((go_at_call 46); refine (HH.out).mono ?_; rintro en w1 ⟨rfl, hf⟩)
    go_ret
    exact ⟨rfl, HO.out _ (hf.alloc _), (hf.alloc _).mono (fun _ _ h => h.elim)⟩
section
variable {w : World} {R : Nat} {A : Option Addr} {c : Nat} {toks : List (TK × Nat)} {k : Nat} {e p : Int}
theorem take_no (h : Rdr w R A c toks k e p) (ht : Toks toks) (hk : k < toks.length) {s : List UInt8} (hs : tsg toks[k] s = false) :
    Calls Tryd.prog 132 #[.pointer (some ⟨R, 0, none⟩), .string ⟨s.toArray⟩] w fun en w' => en = .returned (.bool false) ∧ Rdr w' R A c toks k e p ∧ Fr (Only R) w w' := by
  have := rd_take w R A c toks k e p h hk ht.few s
  rw [hs] at this; exact this
theorem take_yes (h : Rdr w R A c toks k e p) (ht : Toks toks) (hk : k < toks.length) {s : List UInt8} (hs : tsg toks[k] s = true) :
    Calls Tryd.prog 132 #[.pointer (some ⟨R, 0, none⟩), .string ⟨s.toArray⟩] w fun en w' => en = .returned (.bool true) ∧ Rdr w' R A c toks (k + 1) e p ∧ Fr (Only R) w w' := by
  have := rd_take w R A c toks k e p h hk ht.few s
  rw [hs] at this; exact this
end
set_option maxHeartbeats 1000000 in
theorem need_no (w : World) (R : Nat) (A : Option Addr) (c : Nat) (toks : List (TK × Nat)) (k : Nat) (e p : Int) (h : Rdr w R A c toks k e p) (ht : Toks toks) (hk : k < toks.length) {s : List UInt8} (hs : tsg toks[k] s = false) :
    Calls Tryd.prog 233 #[.pointer (some ⟨R, 0, none⟩), .string ⟨s.toArray⟩] w fun en w' => en = .returned (.bool false) ∧ Rdr w' R A c toks k 20 toks[k].2 ∧ Fr (Only R) w w' := by
  have HT := Lib.hid (take_no h ht hk hs)
  have HW := Lib.hid (fun W (h : Rdr W R A c toks k e p) => rd_wrong W R A c toks k e p h hk 20)
  clear h hs
  go_enter Tryd.func233, Tryd.ntmps233
  go_wp2_with (first | ((go_at_call 132); refine (HT.out).mono ?_; rintro en w1 ⟨rfl, hr1, hf1⟩; have HR1 := Lib.hid hr1; have HF1 := Lib.hid hf1; clear hr1 hf1) | ((go_at_call 47); refine (HW.out _ HR1.out).mono ?_; rintro en w2 ⟨rfl, hr2, hf2⟩; have HR2 := Lib.hid hr2; have HF2 := Lib.hid hf2; clear hr2 hf2))
  go_ret
  exact ⟨rfl, HR2.out, HF1.out.call HF2.out (fun _ h _ => h)⟩
set_option maxHeartbeats 1000000 in
theorem need_yes (w : World) (R : Nat) (A : Option Addr) (c : Nat) (toks : List (TK × Nat)) (k : Nat) (e p : Int) (h : Rdr w R A c toks k e p) (ht : Toks toks) (hk : k < toks.length) {s : List UInt8} (hs : tsg toks[k] s = true) :
    Calls Tryd.prog 233 #[.pointer (some ⟨R, 0, none⟩), .string ⟨s.toArray⟩] w fun en w' => en = .returned (.bool true) ∧ Rdr w' R A c toks (k + 1) e p ∧ Fr (Only R) w w' := by
  have HT := Lib.hid (take_yes h ht hk hs)
  clear h hs
  go_enter Tryd.func233, Tryd.ntmps233
  go_wp2_with ((go_at_call 132); refine (HT.out).mono ?_; rintro en w1 ⟨rfl, hr1, hf1⟩; have HR1 := Lib.hid hr1; have HF1 := Lib.hid hf1; clear hr1 hf1)
  go_ret
  exact ⟨rfl, HR1.out, HF1.out⟩
/-- The comparison at a place: behind it, if there is one. -/
theorem cmp_tsg (x : TK × Nat) : cmpOf x.1 = if tsg x [61] then 1 else if tsg x [33, 61] then 2 else if tsg x [60] then 3 else if tsg x [60, 61] then 4 else if tsg x [62] then 5 else if tsg x [62, 61] then 6 else 0 := by
  unfold cmpOf tsg
  by_cases h : x.1.kind = 3
  · simp only [h, if_true, beq_self_eq_true, Bool.true_and, beq_iff_eq]
  · simp [h]
set_option maxRecDepth 100000 in
set_option maxHeartbeats 4000000 in
theorem rd_compare (w : World) (R : Nat) (A : Option Addr) (c : Nat) (toks : List (TK × Nat)) (k : Nat) (e p : Int) (h : Rdr w R A c toks k e p) (ht : Toks toks) (hk : k < toks.length) :
    Calls Tryd.prog 238 #[.pointer (some ⟨R, 0, none⟩)] w fun en w' => en = .returned (.int .i64 (cmpOf toks[k].1)) ∧ Rdr w' R A c toks (if cmpOf toks[k].1 = 0 then k else k + 1) e p ∧ Fr (Only R) w w' := by
  have HQ := Lib.hid (And.intro h (Fr.refl (Only R) w))
  cases h1 : tsg toks[k] [61]
  · cases h2 : tsg toks[k] [33, 61]
    · cases h3 : tsg toks[k] [60]
      · cases h4 : tsg toks[k] [60, 61]
        · cases h5 : tsg toks[k] [62]
          · cases h6 : tsg toks[k] [62, 61]
            · have T1 := Lib.hid (fun (W : World) (h : Rdr W R A c toks k e p) => take_no h ht hk h1)
              have T2 := Lib.hid (fun (W : World) (h : Rdr W R A c toks k e p) => take_no h ht hk h2)
              have T3 := Lib.hid (fun (W : World) (h : Rdr W R A c toks k e p) => take_no h ht hk h3)
              have T4 := Lib.hid (fun (W : World) (h : Rdr W R A c toks k e p) => take_no h ht hk h4)
              have T5 := Lib.hid (fun (W : World) (h : Rdr W R A c toks k e p) => take_no h ht hk h5)
              have T6 := Lib.hid (fun (W : World) (h : Rdr W R A c toks k e p) => take_no h ht hk h6)
              have hc : cmpOf toks[k].1 = 0 := by rw [cmp_tsg, h1, h2, h3, h4, h5, h6]; rfl
              rw [hc, if_pos rfl]
              clear h hc h1 h2 h3 h4 h5 h6
              go_enter Tryd.func238, Tryd.ntmps238
              go_wp2_with (first | ((go_at_call 132); with_reducible refine (T1.out _ HQ.out.1).mono ?_; rintro en w1 ⟨rfl, hr1, hf1⟩; replace HQ := Lib.hid (And.intro hr1 (HQ.out.2.call hf1 (fun _ h _ => h))); clear hr1 hf1) | ((go_at_call 132); with_reducible refine (T2.out _ HQ.out.1).mono ?_; rintro en w1 ⟨rfl, hr1, hf1⟩; replace HQ := Lib.hid (And.intro hr1 (HQ.out.2.call hf1 (fun _ h _ => h))); clear hr1 hf1) | ((go_at_call 132); with_reducible refine (T3.out _ HQ.out.1).mono ?_; rintro en w1 ⟨rfl, hr1, hf1⟩; replace HQ := Lib.hid (And.intro hr1 (HQ.out.2.call hf1 (fun _ h _ => h))); clear hr1 hf1) | ((go_at_call 132); with_reducible refine (T4.out _ HQ.out.1).mono ?_; rintro en w1 ⟨rfl, hr1, hf1⟩; replace HQ := Lib.hid (And.intro hr1 (HQ.out.2.call hf1 (fun _ h _ => h))); clear hr1 hf1) | ((go_at_call 132); with_reducible refine (T5.out _ HQ.out.1).mono ?_; rintro en w1 ⟨rfl, hr1, hf1⟩; replace HQ := Lib.hid (And.intro hr1 (HQ.out.2.call hf1 (fun _ h _ => h))); clear hr1 hf1) | ((go_at_call 132); with_reducible refine (T6.out _ HQ.out.1).mono ?_; rintro en w1 ⟨rfl, hr1, hf1⟩; replace HQ := Lib.hid (And.intro hr1 (HQ.out.2.call hf1 (fun _ h _ => h))); clear hr1 hf1))
              go_ret
              exact ⟨rfl, HQ.out⟩
            · have T1 := Lib.hid (fun (W : World) (h : Rdr W R A c toks k e p) => take_no h ht hk h1)
              have T2 := Lib.hid (fun (W : World) (h : Rdr W R A c toks k e p) => take_no h ht hk h2)
              have T3 := Lib.hid (fun (W : World) (h : Rdr W R A c toks k e p) => take_no h ht hk h3)
              have T4 := Lib.hid (fun (W : World) (h : Rdr W R A c toks k e p) => take_no h ht hk h4)
              have T5 := Lib.hid (fun (W : World) (h : Rdr W R A c toks k e p) => take_no h ht hk h5)
              have T6 := Lib.hid (fun (W : World) (h : Rdr W R A c toks k e p) => take_yes h ht hk h6)
              have hc : cmpOf toks[k].1 = 6 := by rw [cmp_tsg, h1, h2, h3, h4, h5, h6]; rfl
              rw [hc, if_neg (by decide)]
              clear h hc h1 h2 h3 h4 h5 h6
              go_enter Tryd.func238, Tryd.ntmps238
              go_wp2_with (first | ((go_at_call 132); with_reducible refine (T1.out _ HQ.out.1).mono ?_; rintro en w1 ⟨rfl, hr1, hf1⟩; replace HQ := Lib.hid (And.intro hr1 (HQ.out.2.call hf1 (fun _ h _ => h))); clear hr1 hf1) | ((go_at_call 132); with_reducible refine (T2.out _ HQ.out.1).mono ?_; rintro en w1 ⟨rfl, hr1, hf1⟩; replace HQ := Lib.hid (And.intro hr1 (HQ.out.2.call hf1 (fun _ h _ => h))); clear hr1 hf1) | ((go_at_call 132); with_reducible refine (T3.out _ HQ.out.1).mono ?_; rintro en w1 ⟨rfl, hr1, hf1⟩; replace HQ := Lib.hid (And.intro hr1 (HQ.out.2.call hf1 (fun _ h _ => h))); clear hr1 hf1) | ((go_at_call 132); with_reducible refine (T4.out _ HQ.out.1).mono ?_; rintro en w1 ⟨rfl, hr1, hf1⟩; replace HQ := Lib.hid (And.intro hr1 (HQ.out.2.call hf1 (fun _ h _ => h))); clear hr1 hf1) | ((go_at_call 132); with_reducible refine (T5.out _ HQ.out.1).mono ?_; rintro en w1 ⟨rfl, hr1, hf1⟩; replace HQ := Lib.hid (And.intro hr1 (HQ.out.2.call hf1 (fun _ h _ => h))); clear hr1 hf1) | ((go_at_call 132); with_reducible refine (T6.out _ HQ.out.1).mono ?_; rintro en w1 ⟨rfl, hr1, hf1⟩; replace HQ := Lib.hid (And.intro hr1 (HQ.out.2.call hf1 (fun _ h _ => h))); clear hr1 hf1))
              go_ret
              exact ⟨rfl, HQ.out⟩
          · have T1 := Lib.hid (fun (W : World) (h : Rdr W R A c toks k e p) => take_no h ht hk h1)
            have T2 := Lib.hid (fun (W : World) (h : Rdr W R A c toks k e p) => take_no h ht hk h2)
            have T3 := Lib.hid (fun (W : World) (h : Rdr W R A c toks k e p) => take_no h ht hk h3)
            have T4 := Lib.hid (fun (W : World) (h : Rdr W R A c toks k e p) => take_no h ht hk h4)
            have T5 := Lib.hid (fun (W : World) (h : Rdr W R A c toks k e p) => take_yes h ht hk h5)
            have hc : cmpOf toks[k].1 = 5 := by rw [cmp_tsg, h1, h2, h3, h4, h5]; rfl
            rw [hc, if_neg (by decide)]
            clear h hc h1 h2 h3 h4 h5
            go_enter Tryd.func238, Tryd.ntmps238
            go_wp2_with (first | ((go_at_call 132); with_reducible refine (T1.out _ HQ.out.1).mono ?_; rintro en w1 ⟨rfl, hr1, hf1⟩; replace HQ := Lib.hid (And.intro hr1 (HQ.out.2.call hf1 (fun _ h _ => h))); clear hr1 hf1) | ((go_at_call 132); with_reducible refine (T2.out _ HQ.out.1).mono ?_; rintro en w1 ⟨rfl, hr1, hf1⟩; replace HQ := Lib.hid (And.intro hr1 (HQ.out.2.call hf1 (fun _ h _ => h))); clear hr1 hf1) | ((go_at_call 132); with_reducible refine (T3.out _ HQ.out.1).mono ?_; rintro en w1 ⟨rfl, hr1, hf1⟩; replace HQ := Lib.hid (And.intro hr1 (HQ.out.2.call hf1 (fun _ h _ => h))); clear hr1 hf1) | ((go_at_call 132); with_reducible refine (T4.out _ HQ.out.1).mono ?_; rintro en w1 ⟨rfl, hr1, hf1⟩; replace HQ := Lib.hid (And.intro hr1 (HQ.out.2.call hf1 (fun _ h _ => h))); clear hr1 hf1) | ((go_at_call 132); with_reducible refine (T5.out _ HQ.out.1).mono ?_; rintro en w1 ⟨rfl, hr1, hf1⟩; replace HQ := Lib.hid (And.intro hr1 (HQ.out.2.call hf1 (fun _ h _ => h))); clear hr1 hf1))
            go_ret
            exact ⟨rfl, HQ.out⟩
        · have T1 := Lib.hid (fun (W : World) (h : Rdr W R A c toks k e p) => take_no h ht hk h1)
          have T2 := Lib.hid (fun (W : World) (h : Rdr W R A c toks k e p) => take_no h ht hk h2)
          have T3 := Lib.hid (fun (W : World) (h : Rdr W R A c toks k e p) => take_no h ht hk h3)
          have T4 := Lib.hid (fun (W : World) (h : Rdr W R A c toks k e p) => take_yes h ht hk h4)
          have hc : cmpOf toks[k].1 = 4 := by rw [cmp_tsg, h1, h2, h3, h4]; rfl
          rw [hc, if_neg (by decide)]
          clear h hc h1 h2 h3 h4
          go_enter Tryd.func238, Tryd.ntmps238
          go_wp2_with (first | ((go_at_call 132); with_reducible refine (T1.out _ HQ.out.1).mono ?_; rintro en w1 ⟨rfl, hr1, hf1⟩; replace HQ := Lib.hid (And.intro hr1 (HQ.out.2.call hf1 (fun _ h _ => h))); clear hr1 hf1) | ((go_at_call 132); with_reducible refine (T2.out _ HQ.out.1).mono ?_; rintro en w1 ⟨rfl, hr1, hf1⟩; replace HQ := Lib.hid (And.intro hr1 (HQ.out.2.call hf1 (fun _ h _ => h))); clear hr1 hf1) | ((go_at_call 132); with_reducible refine (T3.out _ HQ.out.1).mono ?_; rintro en w1 ⟨rfl, hr1, hf1⟩; replace HQ := Lib.hid (And.intro hr1 (HQ.out.2.call hf1 (fun _ h _ => h))); clear hr1 hf1) | ((go_at_call 132); with_reducible refine (T4.out _ HQ.out.1).mono ?_; rintro en w1 ⟨rfl, hr1, hf1⟩; replace HQ := Lib.hid (And.intro hr1 (HQ.out.2.call hf1 (fun _ h _ => h))); clear hr1 hf1))
          go_ret
          exact ⟨rfl, HQ.out⟩
      · have T1 := Lib.hid (fun (W : World) (h : Rdr W R A c toks k e p) => take_no h ht hk h1)
        have T2 := Lib.hid (fun (W : World) (h : Rdr W R A c toks k e p) => take_no h ht hk h2)
        have T3 := Lib.hid (fun (W : World) (h : Rdr W R A c toks k e p) => take_yes h ht hk h3)
        have hc : cmpOf toks[k].1 = 3 := by rw [cmp_tsg, h1, h2, h3]; rfl
        rw [hc, if_neg (by decide)]
        clear h hc h1 h2 h3
        go_enter Tryd.func238, Tryd.ntmps238
        go_wp2_with (first | ((go_at_call 132); with_reducible refine (T1.out _ HQ.out.1).mono ?_; rintro en w1 ⟨rfl, hr1, hf1⟩; replace HQ := Lib.hid (And.intro hr1 (HQ.out.2.call hf1 (fun _ h _ => h))); clear hr1 hf1) | ((go_at_call 132); with_reducible refine (T2.out _ HQ.out.1).mono ?_; rintro en w1 ⟨rfl, hr1, hf1⟩; replace HQ := Lib.hid (And.intro hr1 (HQ.out.2.call hf1 (fun _ h _ => h))); clear hr1 hf1) | ((go_at_call 132); with_reducible refine (T3.out _ HQ.out.1).mono ?_; rintro en w1 ⟨rfl, hr1, hf1⟩; replace HQ := Lib.hid (And.intro hr1 (HQ.out.2.call hf1 (fun _ h _ => h))); clear hr1 hf1))
        go_ret
        exact ⟨rfl, HQ.out⟩
    · have T1 := Lib.hid (fun (W : World) (h : Rdr W R A c toks k e p) => take_no h ht hk h1)
      have T2 := Lib.hid (fun (W : World) (h : Rdr W R A c toks k e p) => take_yes h ht hk h2)
      have hc : cmpOf toks[k].1 = 2 := by rw [cmp_tsg, h1, h2]; rfl
      rw [hc, if_neg (by decide)]
      clear h hc h1 h2
      go_enter Tryd.func238, Tryd.ntmps238
      go_wp2_with (first | ((go_at_call 132); with_reducible refine (T1.out _ HQ.out.1).mono ?_; rintro en w1 ⟨rfl, hr1, hf1⟩; replace HQ := Lib.hid (And.intro hr1 (HQ.out.2.call hf1 (fun _ h _ => h))); clear hr1 hf1) | ((go_at_call 132); with_reducible refine (T2.out _ HQ.out.1).mono ?_; rintro en w1 ⟨rfl, hr1, hf1⟩; replace HQ := Lib.hid (And.intro hr1 (HQ.out.2.call hf1 (fun _ h _ => h))); clear hr1 hf1))
      go_ret
      exact ⟨rfl, HQ.out⟩
  · have T1 := Lib.hid (fun (W : World) (h : Rdr W R A c toks k e p) => take_yes h ht hk h1)
    have hc : cmpOf toks[k].1 = 1 := by rw [cmp_tsg, h1]; rfl
    rw [hc, if_neg (by decide)]
    clear h hc h1
    go_enter Tryd.func238, Tryd.ntmps238
    go_wp2_with (first | ((go_at_call 132); with_reducible refine (T1.out _ HQ.out.1).mono ?_; rintro en w1 ⟨rfl, hr1, hf1⟩; replace HQ := Lib.hid (And.intro hr1 (HQ.out.2.call hf1 (fun _ h _ => h))); clear hr1 hf1))
    go_ret
    exact ⟨rfl, HQ.out⟩
/-- The cells of two nodes in a row. -/
def pairC (x : Nd) (B : Option Addr) (n d : Nat) (y : Nd) (C : Option Addr) (m e : Nat) : Array Value :=
  #[.int .i64 x.op, .string x.name, .int .i64 x.cmp, .int .i64 x.val, .int .i64 x.lo, .int .i64 x.hi, .slice B n d, .int .i64 y.op, .string y.name, .int .i64 y.cmp, .int .i64 y.val, .int .i64 y.lo, .int .i64 y.hi, .slice C m e]
set_option maxHeartbeats 2000000 in
theorem rd_pair (w : World) (op lo hi : Int) (x : Nd) (B : Option Addr) (n d : Nat) (y : Nd) (C : Option Addr) (m e : Nat) :
    Calls Tryd.prog 133 #[.int .i64 op, .agg #[.int .i64 lo, .int .i64 hi], fval x B n d, fval y C m e] w fun en w' =>
      ∃ g, en = .returned (fval (nd1 op lo hi) (some ⟨g, 0, none⟩) 2 2) ∧ w.heap.size ≤ g ∧ Blk w' g 28 (pairC x B n d y C m e) ∧ Fr Nob w w' := by
  unfold fval nd1 pairC
  go_enter Tryd.func133, Tryd.ntmps133
  go_wp2_with fail
  refine bodyPost_ret (v := .agg #[.int .i64 op, .string ⟨#[]⟩, .int .i64 0, .int .i64 0, .int .i64 lo, .int .i64 hi, .slice (some ⟨w.heap.size + 1 + 1 + 1 + 1, 0, none⟩) 2 2]) (by simp [results, Tryd.results133, go_sem]) rfl ⟨_, rfl, by omega, Blk.new_eq (by simp), ?_⟩
  exact (((((Fr.refl Nob w).alloc _).alloc _).alloc _).alloc _).alloc _
theorem kids_two {q : Nat → Prop} {w : World} {g : Nat} {x y : Nd} {B C : Option Addr} {d e : Nat} {ks js : Fo} (hb : Blk w g 28 (pairC x B ks.len d y C js.len e)) (h1 : FoSlP q w B d ks) (h2 : FoSlP q w C e js) (hg : q g) : FoSlP q w (some ⟨g, 0, none⟩) 2 (.cons x B d ks (.cons y C e js .nil)) := by
  refine ⟨⟨Nat.le_refl _, by decide, fun e => by cases e⟩, fun _ => ⟨_, _, rfl⟩, fun bb oo e => ?_⟩
  cases e
  refine Fo.at_of hg hb.lt (fun j u hu => ?_) ⟨h1, h2, trivial⟩
  rw [Nat.zero_add, hb.cell]
  have : (Fo.cons x B d ks (.cons y C e js .nil)).tops.toArray = pairC x B ks.len d y C js.len e := by simp [Fo.tops, fcs, pairC]
  rw [← this]; simpa using hu
theorem kids_one {q : Nat → Prop} {w : World} {g : Nat} {x : Nd} {B : Option Addr} {d : Nat} {ks : Fo} (hb : Blk w g 28 #[.int .i64 x.op, .string x.name, .int .i64 x.cmp, .int .i64 x.val, .int .i64 x.lo, .int .i64 x.hi, .slice B ks.len d]) (h1 : FoSlP q w B d ks) (hg : q g) : FoSlP q w (some ⟨g, 0, none⟩) 1 (.cons x B d ks .nil) := by
  refine ⟨⟨Nat.le_refl _, by decide, fun e => by cases e⟩, fun _ => ⟨_, _, rfl⟩, fun bb oo e => ?_⟩
  cases e
  refine Fo.at_of hg hb.lt (fun j u hu => ?_) ⟨h1, trivial⟩
  rw [Nat.zero_add, hb.cell]
  have : (Fo.cons x B d ks .nil).tops.toArray = #[.int .i64 x.op, .string x.name, .int .i64 x.cmp, .int .i64 x.val, .int .i64 x.lo, .int .i64 x.hi, .slice B ks.len d] := by simp [Fo.tops, fcs]
  rw [← this]; simpa using hu
end Go.Proofs.YtfebkjoohnlifaaDoor
