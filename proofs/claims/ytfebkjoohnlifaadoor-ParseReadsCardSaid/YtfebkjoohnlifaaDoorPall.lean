/- A shown formula is read as it; its tokens are read off its text. Plain. -/
import Derived.Test.YtfebkjoohnlifaaDoorTplain
import Derived.Test.YtfebkjoohnlifaaDoorDigs
import Derived.Test.YtfebkjoohnlifaaDoorPplain
import Derived.Test.YtfebkjoohnlifaaDoorFshow
namespace Go.Proofs.YtfebkjoohnlifaaDoor

theorem pdgt_nat {k : Nat} (h : k < 10) : (dgt k).toNat = 48 + k := by
  unfold dgt
  rw [UInt8.toNat_ofNat']
  omega
theorem pdgt_dig {k : Nat} (h : k < 10) : digB (dgt k) = true := by
  simp only [digB, pdgt_nat h, Bool.and_eq_true, decide_eq_true_eq]
  omega
theorem pdg_digs (u : Nat) : ∀ c ∈ dg u, digB c = true := by
  refine dg_ind (p := fun u => ∀ c ∈ dg u, digB c = true) (fun u h c hc => ?_) (fun u h ih c hc => ?_) u
  · rw [dg_small h] at hc
    simp only [List.mem_singleton] at hc
    subst hc
    exact pdgt_dig h
  · rw [dg_big h] at hc
    rcases List.mem_append.1 hc with hc | hc
    · exact ih c hc
    · simp only [List.mem_singleton] at hc
      subst hc
      exact pdgt_dig (by omega)
theorem pdg_ne (u : Nat) : dg u ≠ [] := by
  refine dg_ind (p := fun u => dg u ≠ []) (fun u h => by rw [dg_small h]; simp) (fun u h _ => by rw [dg_big h]; simp) u
theorem pdg_dec (u : Nat) : ddec 0 (dg u) = u := by
  refine dg_ind (p := fun u => ddec 0 (dg u) = u) (fun u h => ?_) (fun u h ih => ?_) u
  · rw [dg_small h]
    show dstep 0 (dgt u) = u
    unfold dstep
    rw [pdgt_nat h]
    omega
  · rw [dg_big h, ddec_snoc, ih]
    unfold dstep
    rw [pdgt_nat (by omega)]
    omega
theorem pdg_head (u : Nat) : (dg u).head? = some 48 → u = 0 := by
  refine dg_ind (p := fun u => (dg u).head? = some 48 → u = 0) (fun u h e => ?_) (fun u h ih e => ?_) u
  · rw [dg_small h] at e
    simp only [List.head?_cons, Option.some.injEq] at e
    have := pdgt_nat h
    rw [e] at this
    have h48 : UInt8.toNat 48 = 48 := rfl
    omega
  · rw [dg_big h] at e
    obtain ⟨c, r, hc⟩ := List.exists_cons_of_ne_nil (pdg_ne (u / 10))
    rw [hc] at e ih
    have := ih e
    omega

theorem pnl_45 {r : List UInt8} : numLen (45 :: r) = if (r.takeWhile digB).length = 0 then 0 else (r.takeWhile digB).length + 1 := by simp [numLen]
theorem pnl_no {c : UInt8} {r : List UInt8} (h : ¬ c = 45) : numLen (c :: r) = ((c :: r).takeWhile digB).length := by simp [numLen, h]
theorem pdig_val {n : Int} (h : I64 n) : numVal (digsI n) = (0, n) := by
  unfold I64 at h
  have hd := pdg_dec n.natAbs
  have hh := pdg_head n.natAbs
  have hne := pdg_ne n.natAbs
  have hds := pdg_digs n.natAbs
  unfold digsI
  by_cases hn : n < 0
  · rw [if_pos hn]
    unfold numVal
    have h0 : ¬ (dg n.natAbs).head? = some 48 := fun e => by have := hh e; omega
    simp only [List.head?_cons, beq_self_eq_true, if_true, List.tail_cons, Bool.true_or, Bool.and_true]
    rw [if_neg (by simpa using h0), hd]
    unfold valB
    rw [if_pos rfl, if_pos (by omega)]
    simp only [vres]
    rw [show -((n.natAbs : Nat) : Int) = n by omega]
  · rw [if_neg hn]
    obtain ⟨c, l, hc⟩ := List.exists_cons_of_ne_nil hne
    have h45 : ¬ c = 45 := by rintro rfl; have := hds 45 (by rw [hc]; simp); revert this; decide
    unfold numVal
    have e45 : ((dg n.natAbs).head? == some 45) = false := by rw [hc]; simpa using h45
    simp only [e45, Bool.false_eq_true, if_false, Bool.false_or]
    rw [if_neg, hd]
    · unfold valB
      rw [if_neg (by decide), if_pos (by omega)]
      simp only [vres]
      rw [show ((n.natAbs : Nat) : Int) = n by omega]
    · intro e
      simp only [Bool.and_eq_true, beq_iff_eq, decide_eq_true_eq] at e
      have h0 := hh e.1
      have : (dg n.natAbs).length = 1 := by rw [h0]; rfl
      omega
theorem pdig_head (n : Int) : ∃ c l, digsI n = c :: l ∧ smallB c = false ∧ blankB c = false := by
  have hne := pdg_ne n.natAbs
  have hds := pdg_digs n.natAbs
  unfold digsI
  by_cases hn : n < 0
  · rw [if_pos hn]; exact ⟨45, _, rfl, rfl, rfl⟩
  · rw [if_neg hn]
    obtain ⟨c, l, hc⟩ := List.exists_cons_of_ne_nil hne
    refine ⟨c, l, hc, ?_, ?_⟩
    · have h := hds c (by rw [hc]; simp)
      simp only [digB, Bool.and_eq_true, decide_eq_true_eq] at h
      simp only [smallB, Bool.and_eq_false_iff, decide_eq_false_iff_not]; omega
    · have h := hds c (by rw [hc]; simp)
      rw [← Bool.not_eq_true]
      intro hb
      simp only [blankB, Bool.or_eq_true, beq_iff_eq] at hb
      rcases hb with (rfl | rfl) | rfl <;> revert h <;> decide
end Go.Proofs.YtfebkjoohnlifaaDoor
namespace Go.Proofs.YtfebkjoohnlifaaDoor

def tS (s : List UInt8) : TK := ⟨3, s, 0⟩
def tW (s : List UInt8) : TK := ⟨1, s, 0⟩
def tN (n : Int) : TK := ⟨2, digsI n, n⟩
def spanK (lo hi : Int) : List TK := [tS [91], tN lo, tS [44], tN hi, tS [93]]
def cmpK (c : Int) : List UInt8 := if c = 1 then [61] else if c = 2 then [33, 61] else if c = 3 then [60] else if c = 4 then [60, 61] else if c = 5 then [62] else [62, 61]
def leafK (x : Nd) : List TK :=
  if x.op = 1 then [tW trueW] else if x.op = 2 then [tW falseW] else if x.cmp = 0 then [tW x.name.data.toList] else [tW x.name.data.toList, tS (cmpK x.cmp), tN x.val]
def signK (x : Nd) : List TK :=
  if x.op = 4 then [tS [33]] else if x.op = 5 then [tS [38]] else if x.op = 6 then [tS [124]] else if x.op = 7 then [tS [45, 62]] else if x.op = 8 then [tS [60, 45, 62]]
  else if x.op = 9 then tS [70] :: spanK x.lo x.hi else if x.op = 10 then tS [71] :: spanK x.lo x.hi else if x.op = 11 then tS [85] :: spanK x.lo x.hi else tS [82] :: spanK x.lo x.hi
def wrapK (p : Int) (k : Int × List TK) : List TK := if placeN k.1 < p then tS [40] :: (k.2 ++ [tS [41]]) else k.2
def kd0 (l : List (Int × List TK)) : Int × List TK := l.getD 0 (0, [])
def kd1 (l : List (Int × List TK)) : Int × List TK := l.getD 1 (0, [])
def nodeK (x : Nd) (l : List (Int × List TK)) : List TK :=
  if kidsN x.op = 0 then leafK x else if kidsN x.op = 1 then signK x ++ wrapK (pl0 x.op) (kd0 l) else wrapK (pl0 x.op) (kd0 l) ++ (signK x ++ wrapK (pl1 x.op) (kd1 l))
def Tr.toks : Tr → List (Int × List TK)
  | .nil => []
  | .cons x k r => (x.op, nodeK x k.toks) :: r.toks
/-- The tokens of a formula's text. -/
def toksT (x : Nd) (ks : Tr) : List TK := nodeK x ks.toks

/-! The rules. -/
section
variable {x y : Nd} {ks js : Tr} {ts r r2 r3 : List TK} {q : PR} {lo hi : Int}
theorem rd_up {l : Nat} (hl : l = 1 ∨ l = 3 ∨ l = 4) (h : Reads (.lev (l + 1) ts) (.ok x ks r)) (k : Reads (.lp l x ks r) q) : Reads (.lev l ts) q := by
  obtain ⟨_, N, hN⟩ := h
  obtain ⟨hq, M, hM⟩ := k
  refine Reads.step hq ⟨max N M, fun n hn => ?_⟩
  have h1 := hN n (by omega)
  have h2 := hM n (by omega)
  rcases hl with rfl | rfl | rfl <;> (show (gP n (.lev _ ts)).bind _ = q; rw [h1]; exact h2)
theorem rd_stop {l : Nat} (h : sgn r (lsign l) = false) : Reads (.lp l x ks r) (.ok x ks r) :=
  Reads.step (by simp) ⟨0, fun n _ => by show (if sgn r (lsign l) then _ else _) = _; rw [h]; rfl⟩
theorem rd_go {l : Nat} (h : sgn r (lsign l) = true) (k : Reads (.lev (l + 1) r.tail) (.ok y js r2)) (m : Reads (.lp l (nd1 (lop l) 0 0) (two x ks y js) r2) q) : Reads (.lp l x ks r) q := by
  obtain ⟨_, N, hN⟩ := k
  obtain ⟨hq, M, hM⟩ := m
  refine Reads.step hq ⟨max N M, fun n hn => ?_⟩
  show (if sgn r (lsign l) then _ else _) = _
  rw [h, if_pos rfl, hN n (by omega)]
  exact hM n (by omega)
theorem rd2_stop (h : Reads (.lev 3 ts) (.ok x ks r)) (k : sgn r [45, 62] = false) : Reads (.lev 2 ts) (.ok x ks r) := by
  obtain ⟨_, N, hN⟩ := h
  refine Reads.step (by simp) ⟨N, fun n hn => ?_⟩
  show (gP n (.lev 3 ts)).bind _ = _
  rw [hN n hn]
  show (if sgn r [45, 62] then _ else _) = _
  rw [k]; rfl
theorem rd2_go (h : Reads (.lev 3 ts) (.ok x ks r)) (k : sgn r [45, 62] = true) (m : Reads (.lev 2 r.tail) (.ok y js r2)) : Reads (.lev 2 ts) (.ok (nd1 7 0 0) (two x ks y js) r2) := by
  obtain ⟨_, N, hN⟩ := h
  obtain ⟨_, M, hM⟩ := m
  refine Reads.step (by simp) ⟨max N M, fun n hn => ?_⟩
  show (gP n (.lev 3 ts)).bind _ = _
  rw [hN n (by omega)]
  show (if sgn r [45, 62] then _ else _) = _
  rw [k, if_pos rfl, hM n (by omega)]; rfl
theorem rd5_stop (h : Reads (.lev 6 ts) (.ok x ks r)) (k : sgn r [85] = false) (k2 : sgn r [82] = false) : Reads (.lev 5 ts) (.ok x ks r) := by
  obtain ⟨_, N, hN⟩ := h
  refine Reads.step (by simp) ⟨N, fun n hn => ?_⟩
  show (gP n (.lev 6 ts)).bind _ = _
  rw [hN n hn]
  show (if sgn r [85] then _ else if sgn r [82] then _ else _) = _
  rw [k, k2]; rfl
theorem rd5_un (h : Reads (.lev 6 ts) (.ok x ks r)) (k : sgn r [85] = true) (hs : spanP r.tail = .ok lo hi r2) (m : Reads (.lev 5 r2) (.ok y js r3)) : Reads (.lev 5 ts) (.ok (nd1 11 lo hi) (two x ks y js) r3) := by
  obtain ⟨_, N, hN⟩ := h
  obtain ⟨_, M, hM⟩ := m
  refine Reads.step (by simp) ⟨max N M, fun n hn => ?_⟩
  show (gP n (.lev 6 ts)).bind _ = _
  rw [hN n (by omega)]
  show (if sgn r [85] then _ else _) = _
  rw [k, if_pos rfl, hs]
  show (gP n (.lev 5 r2)).bind _ = _
  rw [hM n (by omega)]; rfl
theorem rd5_re (h : Reads (.lev 6 ts) (.ok x ks r)) (k : sgn r [85] = false) (k2 : sgn r [82] = true) (hs : spanP r.tail = .ok lo hi r2) (m : Reads (.lev 5 r2) (.ok y js r3)) : Reads (.lev 5 ts) (.ok (nd1 12 lo hi) (two x ks y js) r3) := by
  obtain ⟨_, N, hN⟩ := h
  obtain ⟨_, M, hM⟩ := m
  refine Reads.step (by simp) ⟨max N M, fun n hn => ?_⟩
  show (gP n (.lev 6 ts)).bind _ = _
  rw [hN n (by omega)]
  show (if sgn r [85] then _ else if sgn r [82] then _ else _) = _
  rw [k, k2, if_neg (by decide), if_pos rfl, hs]
  show (gP n (.lev 5 r2)).bind _ = _
  rw [hM n (by omega)]; rfl
theorem rd6_not (k : sgn ts [33] = true) (m : Reads (.lev 6 ts.tail) (.ok y js r)) : Reads (.lev 6 ts) (.ok (nd1 4 0 0) (one y js) r) := by
  obtain ⟨_, M, hM⟩ := m
  refine Reads.step (by simp) ⟨M, fun n hn => ?_⟩
  show (if sgn ts [33] then _ else _) = _
  rw [k, if_pos rfl, hM n hn]; rfl
theorem rd6_ev (k0 : sgn ts [33] = false) (k : sgn ts [70] = true) (hs : spanP ts.tail = .ok lo hi r) (m : Reads (.lev 6 r) (.ok y js r2)) : Reads (.lev 6 ts) (.ok (nd1 9 lo hi) (one y js) r2) := by
  obtain ⟨_, M, hM⟩ := m
  refine Reads.step (by simp) ⟨M, fun n hn => ?_⟩
  show (if sgn ts [33] then _ else if sgn ts [70] then _ else _) = _
  rw [k0, k, if_neg (by decide), if_pos rfl, hs]
  show (gP n (.lev 6 r)).bind _ = _
  rw [hM n hn]; rfl
theorem rd6_al (k0 : sgn ts [33] = false) (k1 : sgn ts [70] = false) (k : sgn ts [71] = true) (hs : spanP ts.tail = .ok lo hi r) (m : Reads (.lev 6 r) (.ok y js r2)) : Reads (.lev 6 ts) (.ok (nd1 10 lo hi) (one y js) r2) := by
  obtain ⟨_, M, hM⟩ := m
  refine Reads.step (by simp) ⟨M, fun n hn => ?_⟩
  show (if sgn ts [33] then _ else if sgn ts [70] then _ else if sgn ts [71] then _ else _) = _
  rw [k0, k1, k, if_neg (by decide), if_neg (by decide), if_pos rfl, hs]
  show (gP n (.lev 6 r)).bind _ = _
  rw [hM n hn]; rfl
theorem rd6_up (k0 : sgn ts [33] = false) (k1 : sgn ts [70] = false) (k2 : sgn ts [71] = false) (m : Reads (.lev 7 ts) q) : Reads (.lev 6 ts) q := by
  obtain ⟨hq, M, hM⟩ := m
  refine Reads.step hq ⟨M, fun n hn => ?_⟩
  show (if sgn ts [33] then _ else if sgn ts [70] then _ else if sgn ts [71] then _ else _) = _
  rw [k0, k1, k2]; exact hM n hn
theorem rd7_par (k : sgn ts [40] = true) (m : Reads (.lev 1 ts.tail) (.ok x ks r)) (k2 : sgn r [41] = true) : Reads (.lev 7 ts) (.ok x ks r.tail) := by
  obtain ⟨_, M, hM⟩ := m
  refine Reads.step (by simp) ⟨M, fun n hn => ?_⟩
  show (if sgn ts [40] then _ else _) = _
  rw [k, if_pos rfl, hM n hn]
  show (if sgn r [41] then _ else _) = _
  rw [k2]; rfl
theorem rd7_word (k : sgn ts [40] = false) (h : wordP ts = q) (hq : ¬ q = .out) : Reads (.lev 7 ts) q :=
  Reads.step hq ⟨0, fun n _ => by show (if sgn ts [40] then _ else _) = _; rw [k]; exact h⟩
end
/-- No sign of a level from p on is next. -/
def NF (p : Nat) (ts : List TK) : Prop := (p ≤ 1 → sgn ts [60, 45, 62] = false) ∧ (p ≤ 2 → sgn ts [45, 62] = false) ∧ (p ≤ 3 → sgn ts [124] = false) ∧ (p ≤ 4 → sgn ts [38] = false) ∧ (p ≤ 5 → sgn ts [85] = false ∧ sgn ts [82] = false)
theorem NF.mono {p q : Nat} {ts : List TK} (h : NF p ts) (hp : p ≤ q) : NF q ts := ⟨fun h2 => h.1 (by omega), fun h2 => h.2.1 (by omega), fun h2 => h.2.2.1 (by omega), fun h2 => h.2.2.2.1 (by omega), fun h2 => h.2.2.2.2 (by omega)⟩
theorem down {l : Nat} (h1 : 1 ≤ l) (h5 : l ≤ 5) {ts r : List TK} {x : Nd} {ks : Tr} (h : Reads (.lev (l + 1) ts) (.ok x ks r)) (hn : NF l r) : Reads (.lev l ts) (.ok x ks r) := by
  have : l = 1 ∨ l = 2 ∨ l = 3 ∨ l = 4 ∨ l = 5 := by omega
  rcases this with rfl | rfl | rfl | rfl | rfl
  · exact rd_up (.inl rfl) h (rd_stop (hn.1 (by omega)))
  · exact rd2_stop h (hn.2.1 (by omega))
  · exact rd_up (.inr (.inl rfl)) h (rd_stop (hn.2.2.1 (by omega)))
  · exact rd_up (.inr (.inr rfl)) h (rd_stop (hn.2.2.2.1 (by omega)))
  · exact rd5_stop h (hn.2.2.2.2 (by omega)).1 (hn.2.2.2.2 (by omega)).2
theorem descend {ts r : List TK} {x : Nd} {ks : Tr} {p : Nat} (hp : 1 ≤ p) (hn : NF p r) : ∀ d, p + d ≤ 6 → Reads (.lev (p + d) ts) (.ok x ks r) → Reads (.lev p ts) (.ok x ks r)
  | 0, _, h => h
  | d + 1, hd, h => descend hp hn d (by omega) (down (by omega) (by omega) h (hn.mono (by omega)))
theorem span_read (lo hi : Int) (r : List TK) (h0 : 0 ≤ lo) (h1 : lo ≤ hi) : spanP (spanK lo hi ++ r) = .ok lo hi r := by
  have e1 : ¬ lo < 0 := by omega
  have e2 : ¬ hi < 0 := by omega
  have e3 : ¬ hi < lo := by omega
  simp [spanP, spanK, sgn, hd, tS, tN, e1, e2, e3]
theorem sgn_tS (s : List UInt8) (r : List TK) (t : List UInt8) : sgn (tS s :: r) t = (s == t) := by simp [sgn, hd, tS]
/-- What is told of a formula: at each level its tokens are read as it, whatever stands behind them that does not go on. -/
def AT (p : Nat) (x : Nd) (ks : Tr) : Prop := ∀ rest, cmpOf (hd rest) = 0 → NF p rest → Reads (.lev p (wrapK p (x.op, toksT x ks) ++ rest)) (.ok x ks rest)
def LB (l : Nat) (x : Nd) (ks : Tr) : Prop := ∀ rest q, cmpOf (hd rest) = 0 → NF (l + 1) rest → Reads (.lp l x ks rest) q → Reads (.lev l (wrapK l (x.op, toksT x ks) ++ rest)) q
theorem wrapK_bare {p : Int} {o : Int} {t : List TK} (h : p ≤ placeN o) : wrapK p (o, t) = t := by unfold wrapK; rw [if_neg (by simp only; omega)]
theorem wrapK_par {p : Int} {o : Int} {t : List TK} (h : placeN o < p) : wrapK p (o, t) = tS [40] :: (t ++ [tS [41]]) := by unfold wrapK; rw [if_pos h]
theorem place_range (o : Int) : 1 ≤ placeN o ∧ placeN o ≤ 7 := by unfold placeN; (repeat' split) <;> omega
theorem cmp_of_sign {s : List UInt8} (r : List TK) (h : s ∉ [[61], [33, 61], [60], [60, 61], [62], [62, 61]]) : cmpOf (hd (tS s :: r)) = 0 := by
  simp only [List.mem_cons, List.not_mem_nil, or_false, not_or] at h
  simp [cmpOf, hd, tS, h]
theorem nf_close (p : Nat) (r : List TK) : NF p (tS [41] :: r) := by unfold NF; simp only [sgn_tS]; exact ⟨fun _ => rfl, fun _ => rfl, fun _ => rfl, fun _ => rfl, fun _ => ⟨rfl, rfl⟩⟩
/-- From a bare reading at its own level to all levels. -/
theorem at_of_bare {x : Nd} {ks : Tr} {q : Nat} (hq : placeN x.op = q) (hb : ∀ rest, cmpOf (hd rest) = 0 → NF q rest → Reads (.lev q (toksT x ks ++ rest)) (.ok x ks rest))
    (h7 : q = 7 → ∀ rest, sgn (toksT x ks ++ rest) [33] = false ∧ sgn (toksT x ks ++ rest) [70] = false ∧ sgn (toksT x ks ++ rest) [71] = false) : ∀ p : Nat, 1 ≤ p → p ≤ 7 → AT p x ks := by
  have hr := place_range x.op
  have low : ∀ p : Nat, 1 ≤ p → p ≤ q → p ≤ 7 → ∀ rest, cmpOf (hd rest) = 0 → NF p rest → Reads (.lev p (toksT x ks ++ rest)) (.ok x ks rest) := by
    intro p hp hpq _ rest hc hn
    by_cases e7 : q = 7
    · subst e7
      by_cases ep : p = 7
      · subst ep; exact hb rest hc hn
      · obtain ⟨s1, s2, s3⟩ := h7 rfl rest
        have h6 := rd6_up s1 s2 s3 (hb rest hc (hn.mono hpq))
        exact descend hp hn (6 - p) (by omega) (by rw [show p + (6 - p) = 6 by omega]; exact h6)
    · exact descend hp hn (q - p) (by omega) (by rw [show p + (q - p) = q by omega]; exact hb rest hc (hn.mono hpq))
  intro p hp h77 rest hc hn
  by_cases hpq : p ≤ q
  · rw [wrapK_bare (by omega)]; exact low p hp hpq h77 rest hc hn
  · rw [wrapK_par (by omega)]
    have h1 := low 1 (Nat.le_refl _) (by omega) (by omega) (tS [41] :: rest) (cmp_of_sign _ (by decide)) (nf_close _ _)
    have h2 := rd7_par (ts := tS [40] :: (toksT x ks ++ [tS [41]]) ++ rest) (by rw [List.cons_append, sgn_tS]; rfl) (by rw [List.cons_append, List.tail_cons, List.append_assoc]; exact h1) (by rw [sgn_tS]; rfl)
    rw [List.tail_cons] at h2
    by_cases ep : p = 7
    · subst ep; exact h2
    · have h6 := rd6_up (by rw [List.cons_append, sgn_tS]; rfl) (by rw [List.cons_append, sgn_tS]; rfl) (by rw [List.cons_append, sgn_tS]; rfl) h2
      exact descend hp hn (6 - p) (by omega) (by rw [show p + (6 - p) = 6 by omega]; exact h6)
end Go.Proofs.YtfebkjoohnlifaaDoor
namespace Go.Proofs.YtfebkjoohnlifaaDoor

theorem wrong_parts {x : Nd} {n : Nat} (h : wrongN x n = 0) : (1 ≤ x.op ∧ x.op ≤ 12 ∧ n = kidsN x.op) ∧ (x.op ≠ 3 → x.name.toList = [] ∧ x.cmp = 0 ∧ x.val = 0) ∧ (x.op < 9 → x.lo = 0 ∧ x.hi = 0) ∧ (0 ≤ x.cmp ∧ x.cmp ≤ 6 ∧ (x.cmp = 0 → x.val = 0)) ∧ (x.op = 3 → nmOk x.name = true) ∧ (9 ≤ x.op → 0 ≤ x.lo ∧ x.lo ≤ x.hi) := by
  refine ⟨wrong_op h, ?_⟩
  unfold wrongN at h
  by_cases h1 : x.op < 1 ∨ 12 < x.op ∨ n ≠ kidsN x.op
  · rw [if_pos h1] at h; exact absurd h (by decide)
  rw [if_neg h1] at h
  by_cases h2 : x.op ≠ 3 ∧ (x.name.toList ≠ [] ∨ x.cmp ≠ 0 ∨ x.val ≠ 0)
  · rw [if_pos h2] at h; exact absurd h (by decide)
  rw [if_neg h2] at h
  by_cases h3 : x.op < 9 ∧ (x.lo ≠ 0 ∨ x.hi ≠ 0)
  · rw [if_pos h3] at h; exact absurd h (by decide)
  rw [if_neg h3] at h
  by_cases h4 : x.cmp < 0 ∨ 6 < x.cmp ∨ (x.cmp = 0 ∧ x.val ≠ 0)
  · rw [if_pos h4] at h; exact absurd h (by decide)
  rw [if_neg h4] at h
  by_cases h5 : x.op = 3 ∧ nmOk x.name = false
  · rw [if_pos h5] at h; exact absurd h (by decide)
  rw [if_neg h5] at h
  by_cases h6 : 9 ≤ x.op ∧ spanB x.lo x.hi = false
  · rw [if_pos h6] at h; exact absurd h (by decide)
  refine ⟨fun e => ?_, fun e => ?_, ?_, fun e => ?_, fun e => ?_⟩
  · simp only [not_and, not_or, ne_eq, Decidable.not_not] at h2
    exact h2 e
  · simp only [not_and, not_or, ne_eq, Decidable.not_not] at h3
    exact h3 e
  · simp only [not_and, not_or, ne_eq, Decidable.not_not] at h4
    exact ⟨by omega, by omega, h4.2.2⟩
  · simp only [not_and, Bool.not_eq_false] at h5
    exact h5 e
  · simp only [not_and, Bool.not_eq_false] at h6
    have := h6 e
    simp only [spanB, Bool.and_eq_true, decide_eq_true_eq] at this
    exact this
theorem nd_eq {x : Nd} {n : Nat} (h : wrongN x n = 0) (h3 : x.op ≠ 3) : x = nd1 x.op x.lo x.hi := by
  obtain ⟨_, h2, _⟩ := wrong_parts h
  obtain ⟨a, b, c⟩ := h2 h3
  obtain ⟨op, nm, cm, va, lo, hi⟩ := x
  simp only at a b c
  subst b c
  have : nm = ⟨#[]⟩ := by
    rw [ByteArray.toList_eq] at a
    exact ByteArray.ext (by simpa using a)
  subst this
  rfl
theorem nd_eq0 {x : Nd} {n : Nat} (h : wrongN x n = 0) (h3 : x.op ≠ 3) (h9 : x.op < 9) : x = nd1 x.op 0 0 := by
  have h1 := nd_eq h h3
  obtain ⟨_, _, h2, _⟩ := wrong_parts h
  obtain ⟨a, b⟩ := h2 h9
  rw [a, b] at h1
  exact h1
theorem nil_of_len {t : Tr} (h : t.len = 0) : t = .nil := by cases t with
  | nil => rfl
  | cons => simp [Tr.len] at h
theorem one_of_len {t : Tr} (h : t.len = 1) : ∃ y js, t = one y js := by cases t with
  | nil => simp [Tr.len] at h
  | cons y js r => exact ⟨y, js, by rw [nil_of_len (t := r) (by simp only [Tr.len] at h; omega)]; rfl⟩
theorem two_of_len {t : Tr} (h : t.len = 2) : ∃ y js z ls, t = two y js z ls := by cases t with
  | nil => simp [Tr.len] at h
  | cons y js r =>
    obtain ⟨z, ls, rfl⟩ := one_of_len (t := r) (by simp only [Tr.len] at h; omega)
    exact ⟨y, js, z, ls, rfl⟩
theorem nm_not {s : ByteArray} (h : nmOk s = true) : s.data.toList ≠ trueW ∧ s.data.toList ≠ falseW := by
  unfold nmOk at h
  simp only [Bool.and_eq_true, Bool.not_eq_true', beq_eq_false_iff_ne, ByteArray.toList_eq] at h
  exact ⟨h.1.1.2, h.1.2⟩
theorem read_leaf {x : Nd} {ks : Tr} (h : wrongN x ks.len = 0) (h0 : kidsN x.op = 0) (rest : List TK) (hc : cmpOf (hd rest) = 0) : Reads (.lev 7 (toksT x ks ++ rest)) (.ok x ks rest) := by
  have hp := wrong_parts h
  have hk : ks = .nil := nil_of_len (by omega)
  subst hk
  have ho : x.op = 1 ∨ x.op = 2 ∨ x.op = 3 := by
    have : x.op ≤ 3 := by unfold kidsN at h0; split at h0; assumption; split at h0 <;> omega
    omega
  have ht : toksT x .nil = leafK x := by unfold toksT nodeK; rw [if_pos h0]
  rw [ht]
  rcases ho with ho | ho | ho
  · have hx := nd_eq0 h (by omega) (by omega)
    rw [ho] at hx
    rw [hx]
    refine rd7_word (by simp [leafK, nd1, sgn, hd, tW]) ?_ (by simp)
    simp [wordP, leafK, nd1, hd, tW]
  · have hx := nd_eq0 h (by omega) (by omega)
    rw [ho] at hx
    rw [hx]
    refine rd7_word (by simp [leafK, nd1, sgn, hd, tW]) ?_ (by simp)
    simp [wordP, leafK, nd1, hd, tW, trueW, falseW]
  · obtain ⟨_, _, hs, hcm, hnm, _⟩ := hp
    obtain ⟨n1, n2⟩ := nm_not (hnm ho)
    obtain ⟨l0, l1⟩ := hs (by omega)
    obtain ⟨op, nm, cm, va, lo, hi⟩ := x
    simp only at ho n1 n2 l0 l1 hcm
    subst ho l0 l1
    by_cases h1 : cm = 0
    · obtain rfl : va = 0 := hcm.2.2 h1
      subst h1
      refine rd7_word (by simp [leafK, sgn, hd, tW]) ?_ (by simp)
      have hc' : cmpOf (rest.head?.getD tend) = 0 := by have h9 := hc; unfold hd at h9; rwa [List.headD_eq_head?_getD] at h9
      simp [wordP, leafK, hd, tW, n1, n2, hc']
    · have hck : cmpOf (tS (cmpK cm)) = cm := by
        have : cm = 1 ∨ cm = 2 ∨ cm = 3 ∨ cm = 4 ∨ cm = 5 ∨ cm = 6 := by omega
        rcases this with rfl | rfl | rfl | rfl | rfl | rfl <;> rfl
      refine rd7_word (by simp [leafK, h1, sgn, hd, tW]) ?_ (by simp)
      simp [wordP, leafK, h1, hd, tW, tN, n1, n2, hck]
theorem loop_own {l : Nat} (hl : l = 1 ∨ l = 3 ∨ l = 4) {y z : Nd} {js ls : Tr} (hy : LB l y js) (hz : AT (l + 1) z ls) (rest : List TK) (q : PR) (hc : cmpOf (hd rest) = 0) (hn : NF (l + 1) rest)
    (h : Reads (.lp l (nd1 (lop l) 0 0) (two y js z ls) rest) q) : Reads (.lev l (wrapK l (y.op, toksT y js) ++ (tS (lsign l) :: (wrapK (l + 1 : Nat) (z.op, toksT z ls) ++ rest)))) q := by
  refine hy _ q ?_ ?_ ?_
  · rcases hl with rfl | rfl | rfl <;> exact cmp_of_sign _ (by decide)
  · rcases hl with rfl | rfl | rfl <;> (unfold NF; simp only [sgn_tS]; refine ⟨fun e => ?_, fun e => ?_, fun e => ?_, fun e => ?_, fun e => ?_⟩ <;> first | omega | rfl | exact ⟨rfl, rfl⟩)
  · exact rd_go (by rw [sgn_tS]; simp) (by rw [List.tail_cons]; exact hz rest hc hn) h
theorem toks_one {x y : Nd} {js : Tr} (h : kidsN x.op = 1) : toksT x (one y js) = signK x ++ wrapK (pl0 x.op) (y.op, toksT y js) := by
  unfold toksT nodeK; rw [if_neg (by omega), if_pos h]; rfl
theorem toks_two {x y z : Nd} {js ls : Tr} (h : kidsN x.op = 2) : toksT x (two y js z ls) = wrapK (pl0 x.op) (y.op, toksT y js) ++ (signK x ++ wrapK (pl1 x.op) (z.op, toksT z ls)) := by
  unfold toksT nodeK; rw [if_neg (by omega), if_neg (by omega)]; rfl
/-- At a level that is not the formula's own the loop begins with the whole formula. -/
theorem lb_of_at {l : Nat} (hl : l = 1 ∨ l = 3 ∨ l = 4) {x : Nd} {ks : Tr} (hne : ¬ placeN x.op = l) (h : AT (l + 1) x ks) : LB l x ks := by
  intro rest q hc hn hq
  have hw : wrapK (l : Nat) (x.op, toksT x ks) = wrapK (l + 1 : Nat) (x.op, toksT x ks) := by
    by_cases h1 : placeN x.op < l
    · rw [wrapK_par h1, wrapK_par (by omega)]
    · rw [wrapK_bare (by omega), wrapK_bare (by omega)]
  rw [hw]
  exact rd_up hl (h rest hc hn) hq
theorem read_show : ∀ (m : Nat) (x : Nd) (ks : Tr), ks.size ≤ m → wrongN x ks.len = 0 → ks.good → (∀ p : Nat, 1 ≤ p → p ≤ 7 → AT p x ks) ∧ (∀ l : Nat, (l = 1 ∨ l = 3 ∨ l = 4) → LB l x ks) := by
  intro m
  induction m using Nat.strongRecOn with
  | _ m ih =>
    intro x ks hm hw hg
    have hp := wrong_parts hw
    suffices H : (∀ p : Nat, 1 ≤ p → p ≤ 7 → AT p x ks) ∧ (∀ l : Nat, (l = 1 ∨ l = 3 ∨ l = 4) → placeN x.op = l → LB l x ks) by
      refine ⟨H.1, fun l hl => ?_⟩
      by_cases h : placeN x.op = l
      · exact H.2 l hl h
      · exact lb_of_at hl h (H.1 (l + 1) (by omega) (by omega))
    by_cases h0 : kidsN x.op = 0
    · have hpl : placeN x.op = (7 : Nat) := by unfold placeN; unfold kidsN at h0; split at h0; · rename_i h; rw [if_pos h]; rfl
                                               · split at h0 <;> omega
      refine ⟨at_of_bare hpl (fun rest hc _ => read_leaf hw h0 rest hc) (fun _ rest => ?_), fun l hl h => by omega⟩
      have ht : toksT x ks = leafK x := by unfold toksT nodeK; rw [if_pos h0]
      rw [ht]
      unfold leafK
      repeat' split
      all_goals (simp [sgn, hd, tW])
    by_cases h1 : kidsN x.op = 1
    · obtain ⟨y, js, rfl⟩ := one_of_len (t := ks) (by omega)
      have hy := ih js.size (by simp only [one, Tr.size] at hm; omega) y js (Nat.le_refl _) hg.1 hg.2.1
      have hpl0 : pl0 x.op = (6 : Nat) := by rcases op_one h0 h1 with h | h | h <;> rw [h] <;> rfl
      have hpl : placeN x.op = (6 : Nat) := by rcases op_one h0 h1 with h | h | h <;> rw [h] <;> rfl
      refine ⟨at_of_bare hpl (fun rest hc hn => ?_) (fun h => by omega), fun l hl h => by omega⟩
      have hyr := hy.1 6 (by decide) (by decide) rest hc hn
      rw [toks_one h1, hpl0, List.append_assoc]
      have hx := nd_eq hw (by rcases op_one h0 h1 with h | h | h <;> omega)
      rcases op_one h0 h1 with ho | ho | ho
      · have hx0 := nd_eq0 hw (by omega) (by omega)
        rw [ho] at hx0
        rw [show signK x = [tS [33]] by unfold signK; rw [if_pos ho]]
        rw [hx0]
        exact rd6_not (by rw [List.singleton_append, sgn_tS]; rfl) (by rw [List.singleton_append, List.tail_cons]; exact hyr)
      · obtain ⟨s0, s1⟩ := hp.2.2.2.2.2 (by omega)
        rw [ho] at hx
        rw [show signK x = tS [70] :: spanK x.lo x.hi by unfold signK; simp [ho]]
        rw [hx]
        exact rd6_ev (by rw [List.cons_append, sgn_tS]; rfl) (by rw [List.cons_append, sgn_tS]; rfl) (by rw [List.cons_append, List.tail_cons]; exact span_read _ _ _ s0 s1) hyr
      · obtain ⟨s0, s1⟩ := hp.2.2.2.2.2 (by omega)
        rw [ho] at hx
        rw [show signK x = tS [71] :: spanK x.lo x.hi by unfold signK; simp [ho]]
        rw [hx]
        exact rd6_al (by rw [List.cons_append, sgn_tS]; rfl) (by rw [List.cons_append, sgn_tS]; rfl) (by rw [List.cons_append, sgn_tS]; rfl) (by rw [List.cons_append, List.tail_cons]; exact span_read _ _ _ s0 s1) hyr
    · have h2 := kidsN_two h0 h1
      obtain ⟨y, js, z, ls, rfl⟩ := two_of_len (t := ks) (by omega)
      have hy := ih js.size (by simp only [two, Tr.size] at hm; omega) y js (Nat.le_refl _) hg.1 hg.2.1
      have hz := ih ls.size (by simp only [two, Tr.size] at hm; omega) z ls (Nat.le_refl _) hg.2.2.1 hg.2.2.2.1
      have hop := op_two ⟨hp.1.1, hp.1.2.1⟩ h0 h1
      by_cases hloop : x.op = 5 ∨ x.op = 6 ∨ x.op = 8
      · have hx := nd_eq0 hw (by omega) (by omega)
        obtain ⟨l, hl, hlo, hpl, hp0, hp1, hsg⟩ : ∃ l : Nat, (l = 1 ∨ l = 3 ∨ l = 4) ∧ lop l = x.op ∧ placeN x.op = l ∧ pl0 x.op = l ∧ pl1 x.op = (l + 1 : Nat) ∧ signK x = [tS (lsign l)] := by
          rcases hloop with h | h | h
          · exact ⟨4, .inr (.inr rfl), by rw [h]; rfl, by rw [h]; rfl, by rw [h]; rfl, by rw [h]; rfl, by unfold signK; simp [h, lsign]⟩
          · exact ⟨3, .inr (.inl rfl), by rw [h]; rfl, by rw [h]; rfl, by rw [h]; rfl, by rw [h]; rfl, by unfold signK; simp [h, lsign]⟩
          · exact ⟨1, .inl rfl, by rw [h]; rfl, by rw [h]; rfl, by rw [h]; rfl, by rw [h]; rfl, by unfold signK; simp [h, lsign]⟩
        have ht : ∀ rest, toksT x (two y js z ls) ++ rest = wrapK (l : Nat) (y.op, toksT y js) ++ (tS (lsign l) :: (wrapK (l + 1 : Nat) (z.op, toksT z ls) ++ rest)) := fun rest => by
          rw [toks_two h2, hp0, hp1, hsg]; simp
        have hlb : LB l x (two y js z ls) := by
          intro rest q hc hn hq
          rw [wrapK_bare (by omega), ht]
          rw [hx, ← hlo] at hq
          exact loop_own hl (hy.2 l hl) (hz.1 (l + 1) (by omega) (by omega)) rest q hc hn hq
        refine ⟨at_of_bare hpl (fun rest hc hn => ?_) (fun h => by omega), fun l2 hl2 h => ?_⟩
        · have h3 := hlb rest (.ok x (two y js z ls) rest) hc (hn.mono (by omega)) (rd_stop (by
            rcases hl with rfl | rfl | rfl
            · exact hn.1 (by omega)
            · exact hn.2.2.1 (by omega)
            · exact hn.2.2.2.1 (by omega)))
          rw [wrapK_bare (by omega)] at h3
          exact h3
        · obtain rfl : l2 = l := by omega
          exact hlb
      · have hlow : x.op = 7 ∨ x.op = 11 ∨ x.op = 12 := by omega
        rcases hlow with ho | ho | ho
        · have hx := nd_eq0 hw (by omega) (by omega)
          rw [ho] at hx
          refine ⟨at_of_bare (q := 2) (by rw [ho]; rfl) (fun rest hc hn => ?_) (fun h => by omega), fun l hl h => by rw [ho] at h; exfalso; revert h; unfold placeN; simp; omega⟩
          have hzr := hz.1 2 (by decide) (by decide) rest hc hn
          rw [toks_two h2, show pl0 x.op = (3 : Nat) by rw [ho]; rfl, show pl1 x.op = (2 : Nat) by rw [ho]; rfl, show signK x = [tS [45, 62]] by unfold signK; simp [ho]]
          rw [show ∀ a b : List TK, (a ++ ([tS [45, 62]] ++ b)) ++ rest = a ++ (tS [45, 62] :: (b ++ rest)) by intro a b; simp]
          have hyr := hy.1 3 (by decide) (by decide) (tS [45, 62] :: (wrapK (2 : Nat) (z.op, toksT z ls) ++ rest)) (cmp_of_sign _ (by decide)) (by unfold NF; simp only [sgn_tS]; refine ⟨fun e => ?_, fun e => ?_, fun e => ?_, fun e => ?_, fun e => ?_⟩ <;> first | omega | rfl | exact ⟨rfl, rfl⟩)
          rw [hx]
          exact rd2_go hyr (by rw [sgn_tS]; rfl) (by rw [List.tail_cons]; exact hzr)
        · have hx := nd_eq hw (by omega)
          obtain ⟨s0, s1⟩ := hp.2.2.2.2.2 (by omega)
          rw [ho] at hx
          refine ⟨at_of_bare (q := 5) (by rw [ho]; rfl) (fun rest hc hn => ?_) (fun h => by omega), fun l hl h => by rw [ho] at h; exfalso; revert h; unfold placeN; simp; omega⟩
          have hzr := hz.1 5 (by decide) (by decide) rest hc hn
          rw [toks_two h2, show pl0 x.op = (6 : Nat) by rw [ho]; rfl, show pl1 x.op = (5 : Nat) by rw [ho]; rfl, show signK x = tS [85] :: spanK x.lo x.hi by unfold signK; simp [ho]]
          rw [show ∀ a b : List TK, (a ++ (tS [85] :: spanK x.lo x.hi ++ b)) ++ rest = a ++ (tS [85] :: (spanK x.lo x.hi ++ (b ++ rest))) by intro a b; simp]
          have hyr := hy.1 6 (by decide) (by decide) (tS [85] :: (spanK x.lo x.hi ++ (wrapK (5 : Nat) (z.op, toksT z ls) ++ rest))) (cmp_of_sign _ (by decide)) (by unfold NF; refine ⟨fun e => ?_, fun e => ?_, fun e => ?_, fun e => ?_, fun e => ?_⟩ <;> omega)
          rw [hx]
          exact rd5_un hyr (by rw [sgn_tS]; rfl) (by rw [List.tail_cons]; exact span_read _ _ _ s0 s1) hzr
        · have hx := nd_eq hw (by omega)
          obtain ⟨s0, s1⟩ := hp.2.2.2.2.2 (by omega)
          rw [ho] at hx
          refine ⟨at_of_bare (q := 5) (by rw [ho]; rfl) (fun rest hc hn => ?_) (fun h => by omega), fun l hl h => by rw [ho] at h; exfalso; revert h; unfold placeN; simp; omega⟩
          have hzr := hz.1 5 (by decide) (by decide) rest hc hn
          rw [toks_two h2, show pl0 x.op = (6 : Nat) by rw [ho]; rfl, show pl1 x.op = (5 : Nat) by rw [ho]; rfl, show signK x = tS [82] :: spanK x.lo x.hi by unfold signK; simp [ho]]
          rw [show ∀ a b : List TK, (a ++ (tS [82] :: spanK x.lo x.hi ++ b)) ++ rest = a ++ (tS [82] :: (spanK x.lo x.hi ++ (b ++ rest))) by intro a b; simp]
          have hyr := hy.1 6 (by decide) (by decide) (tS [82] :: (spanK x.lo x.hi ++ (wrapK (5 : Nat) (z.op, toksT z ls) ++ rest))) (cmp_of_sign _ (by decide)) (by unfold NF; refine ⟨fun e => ?_, fun e => ?_, fun e => ?_, fun e => ?_, fun e => ?_⟩ <;> omega)
          rw [hx]
          exact rd5_re hyr (by rw [sgn_tS]; rfl) (by rw [sgn_tS]; rfl) (by rw [List.tail_cons]; exact span_read _ _ _ s0 s1) hzr
/-- Sound formulas with the same tokens are the same. -/
theorem toks_inj {x y : Nd} {ks js : Tr} (hx : wrongN x ks.len = 0) (hk : ks.good) (hy : wrongN y js.len = 0) (hj : js.good) (h : toksT x ks = toksT y js) : x = y ∧ ks = js := by
  have a := (read_show ks.size x ks (Nat.le_refl _) hx hk).1 1 (by decide) (by decide) [] rfl ⟨fun _ => rfl, fun _ => rfl, fun _ => rfl, fun _ => rfl, fun _ => ⟨rfl, rfl⟩⟩
  have b := (read_show js.size y js (Nat.le_refl _) hy hj).1 1 (by decide) (by decide) [] rfl ⟨fun _ => rfl, fun _ => rfl, fun _ => rfl, fun _ => rfl, fun _ => ⟨rfl, rfl⟩⟩
  rw [wrapK_bare (p := ((1 : Nat) : Int)) (by have := (place_range x.op).1; omega)] at a
  rw [wrapK_bare (p := ((1 : Nat) : Int)) (by have := (place_range y.op).1; omega)] at b
  rw [h] at a
  have := a.uniq b
  simp only [PR.ok.injEq, and_true] at this
  exact this
end Go.Proofs.YtfebkjoohnlifaaDoor
namespace Go.Proofs.YtfebkjoohnlifaaDoor

def itB (i : Option TK) : List UInt8 := match i with
  | none => [32]
  | some T => T.text
def render (l : List (Option TK)) : List UInt8 := l.flatMap itB
theorem render_app (a b : List (Option TK)) : render (a ++ b) = render a ++ render b := by simp [render]
theorem render_cons (i : Option TK) (l : List (Option TK)) : render (i :: l) = itB i ++ render l := by simp [render]
def strip (l : List (Option TK)) : List TK := l.filterMap id
theorem strip_app (a b : List (Option TK)) : strip (a ++ b) = strip a ++ strip b := by simp [strip]
def spanI (lo hi : Int) : List (Option TK) := (spanK lo hi).map some
def leafI (x : Nd) : List (Option TK) :=
  if x.op = 1 then [some (tW trueW)] else if x.op = 2 then [some (tW falseW)] else if x.cmp = 0 then [some (tW x.name.data.toList)] else [some (tW x.name.data.toList), none, some (tS (cmpK x.cmp)), none, some (tN x.val)]
def signI (x : Nd) : List (Option TK) :=
  if x.op = 4 then [some (tS [33])] else if x.op = 5 then [some (tS [38])] else if x.op = 6 then [some (tS [124])] else if x.op = 7 then [some (tS [45, 62])] else if x.op = 8 then [some (tS [60, 45, 62])]
  else if x.op = 9 then some (tS [70]) :: (spanI x.lo x.hi ++ [none]) else if x.op = 10 then some (tS [71]) :: (spanI x.lo x.hi ++ [none]) else if x.op = 11 then some (tS [85]) :: spanI x.lo x.hi else some (tS [82]) :: spanI x.lo x.hi
def wrapI (p : Int) (k : Int × List (Option TK)) : List (Option TK) := if placeN k.1 < p then some (tS [40]) :: (k.2 ++ [some (tS [41])]) else k.2
def ki0 (l : List (Int × List (Option TK))) : Int × List (Option TK) := l.getD 0 (0, [])
def ki1 (l : List (Int × List (Option TK))) : Int × List (Option TK) := l.getD 1 (0, [])
def nodeI (x : Nd) (l : List (Int × List (Option TK))) : List (Option TK) :=
  if kidsN x.op = 0 then leafI x else if kidsN x.op = 1 then signI x ++ wrapI (pl0 x.op) (ki0 l) else wrapI (pl0 x.op) (ki0 l) ++ (none :: (signI x ++ [none]) ++ wrapI (pl1 x.op) (ki1 l))
def Tr.items : Tr → List (Int × List (Option TK))
  | .nil => []
  | .cons x k r => (x.op, nodeI x k.items) :: r.items
def itemsT (x : Nd) (ks : Tr) : List (Option TK) := nodeI x ks.items
def both (t : Int × List (Option TK)) (u : Int × List TK) (v : Int × ByteArray) : Prop := t.1 = u.1 ∧ t.1 = v.1 ∧ strip t.2 = u.2 ∧ render t.2 = v.2.data.toList
theorem strip_span (lo hi : Int) : strip (spanI lo hi) = spanK lo hi := rfl
theorem render_span (lo hi : Int) : render (spanI lo hi) = (spanT lo hi).data.toList := by
  simp [render, spanI, spanK, itB, tS, tN, spanT, decB, ByteArray.data_append]
theorem cmpK_T (c : Int) : (cmpT c).data.toList = cmpK c := by unfold cmpT cmpK; (repeat' split) <;> rfl
theorem leaf_both (x : Nd) : strip (leafI x) = leafK x ∧ render (leafI x) = (leafT x).data.toList := by
  unfold leafI leafK leafT
  repeat' split
  all_goals (refine ⟨rfl, ?_⟩)
  all_goals simp [render, itB, tW, tS, tN, trueW, falseW, decB, ByteArray.data_append, cmpK_T]
theorem sign_both (x : Nd) : strip (signI x) = signK x ∧ render (signI x) = (signT x).data.toList := by
  unfold signI signK signT
  repeat' split
  all_goals first
    | exact ⟨rfl, rfl⟩
    | (refine ⟨by simp [strip, spanI], ?_⟩
       simp only [render_cons, render_app, render_span, itB, tS, ByteArray.data_append, Array.toList_append] <;> simp [render])
theorem wrap_both {t : Int × List (Option TK)} {u : Int × List TK} {v : Int × ByteArray} (h : both t u v) (p : Int) : strip (wrapI p t) = wrapK p u ∧ render (wrapI p t) = (wrapT p v).data.toList := by
  obtain ⟨h1, h2, h3, h4⟩ := h
  unfold wrapI wrapK wrapT
  rw [← h1, ← h2]
  by_cases hp : placeN t.1 < p
  · rw [if_pos hp, if_pos hp, if_pos hp]
    refine ⟨by rw [← h3]; simp [strip], ?_⟩
    rw [render_cons, render_app, h4]
    simp [itB, tS, render, ByteArray.data_append]
  · rw [if_neg hp, if_neg hp, if_neg hp]; exact ⟨h3, h4⟩
theorem node_both (x : Nd) {a : List (Int × List (Option TK))} {b : List (Int × List TK)} {c : List (Int × ByteArray)} (h0 : both (ki0 a) (kd0 b) (kid0 c)) (h1 : both (ki1 a) (kd1 b) (kid1 c)) : strip (nodeI x a) = nodeK x b ∧ render (nodeI x a) = (nodeT x c).data.toList := by
  have l := leaf_both x
  have s := sign_both x
  have w0 := wrap_both h0 (pl0 x.op)
  have w1 := wrap_both h1 (pl1 x.op)
  unfold nodeI nodeK nodeT
  by_cases hk : kidsN x.op = 0
  · rw [if_pos hk, if_pos hk, if_pos hk]; exact l
  by_cases hk1 : kidsN x.op = 1
  · rw [if_neg hk, if_neg hk, if_neg hk, if_pos hk1, if_pos hk1, if_pos hk1]
    refine ⟨by rw [strip_app, s.1, w0.1], by rw [render_app, s.2, w0.2]; simp [ByteArray.data_append]⟩
  · rw [if_neg hk, if_neg hk, if_neg hk, if_neg hk1, if_neg hk1, if_neg hk1]
    refine ⟨?_, ?_⟩
    · rw [strip_app, strip_app, w0.1, w1.1, ← s.1]; simp [strip]
    · rw [render_app, render_app, render_cons, render_app, w0.2, w1.2, s.2]; simp [render, itB, ByteArray.data_append]
theorem all_both : ∀ (t : Tr) (k : Nat), both ((t.items).getD k (0, [])) ((t.toks).getD k (0, [])) ((t.texts).getD k (0, .empty))
  | .nil, k => by simp only [Tr.items, Tr.toks, Tr.texts, List.getD_nil]; exact ⟨rfl, rfl, rfl, rfl⟩
  | .cons x kd r, 0 => by
    have h := node_both x (all_both kd 0) (all_both kd 1)
    exact ⟨rfl, rfl, h.1, h.2⟩
  | .cons x kd r, k + 1 => by
    have := all_both r k
    simpa [Tr.items, Tr.toks, Tr.texts] using this
theorem text_both (x : Nd) (ks : Tr) : strip (itemsT x ks) = toksT x ks ∧ render (itemsT x ks) = (textT x ks).data.toList := node_both x (all_both ks 0) (all_both ks 1)
end Go.Proofs.YtfebkjoohnlifaaDoor
namespace Go.Proofs.YtfebkjoohnlifaaDoor

/-- A byte that ends words and numbers. -/
def stopB (c : UInt8) : Bool := c == 32 || c == 40 || c == 41 || c == 44 || c == 93
def Stop (r : List UInt8) : Prop := ∀ c t, r = c :: t → stopB c = true
theorem stop_not {c : UInt8} (h : stopB c = true) : wordB c = false ∧ digB c = false := by
  simp only [stopB, Bool.or_eq_true, beq_iff_eq] at h
  rcases h with (((rfl | rfl) | rfl) | rfl) | rfl <;> decide
theorem tw_stop {p : UInt8 → Bool} {l r : List UInt8} (hl : ∀ c ∈ l, p c = true) (hr : ∀ c t, r = c :: t → p c = false) : (l ++ r).takeWhile p = l := by
  induction l with
  | nil =>
    cases r with
    | nil => rfl
    | cons c t => rw [List.nil_append, List.takeWhile_cons_of_neg (by simp [hr c t rfl])]
  | cons a l ih => rw [List.cons_append, List.takeWhile_cons_of_pos (hl a (by simp)), ih (fun c hc => hl c (by simp [hc]))]
theorem tok_word {s : List UInt8} {c : UInt8} {l : List UInt8} (hs : s = c :: l) (hc : smallB c = true) (hl : ∀ d ∈ l, wordB d = true) (hlen : s.length ≤ 12) (r : List UInt8) (hr : Stop r) : nextT (s ++ r) = (0, tW s) := by
  subst hs
  have ht : (l ++ r).takeWhile wordB = l := tw_stop hl (fun d t h => (stop_not (hr d t h)).1)
  rw [List.cons_append]
  unfold nextT
  simp only [hc, if_true, ht]
  simp only [List.length_cons] at hlen
  rw [if_neg (by omega)]
  simp [tW]
theorem numLen_stop {n : Int} (r : List UInt8) (hr : Stop r) : numLen (digsI n ++ r) = (digsI n).length := by
  have hd := pdg_digs n.natAbs
  have hne := pdg_ne n.natAbs
  have ht : (dg n.natAbs ++ r).takeWhile digB = dg n.natAbs := tw_stop hd (fun d t h => (stop_not (hr d t h)).2)
  unfold digsI
  by_cases h : n < 0
  · rw [if_pos h, List.cons_append, pnl_45, ht, if_neg (by have := List.length_pos_iff.2 hne; omega), List.length_cons]
  · rw [if_neg h]
    obtain ⟨c, l, hc⟩ := List.exists_cons_of_ne_nil hne
    rw [hc] at ht hd ⊢
    have h45 : ¬ c = 45 := by rintro rfl; have := hd 45 (by simp); revert this; decide
    rw [List.cons_append, pnl_no h45, ← List.cons_append, ht]
theorem tok_num {n : Int} (hn : I64 n) (r : List UInt8) (hr : Stop r) : nextT (digsI n ++ r) = (0, tN n) := by
  have h2 := numLen_stop (n := n) r hr
  have h3 := pdig_val hn
  obtain ⟨c, l, hc, h4, _⟩ := pdig_head n
  have htn : tN n = ⟨2, c :: l, n⟩ := by rw [← hc]; rfl
  rw [hc] at h2 h3
  rw [hc, htn]
  rw [List.cons_append] at h2 ⊢
  unfold nextT
  simp only [h4, Bool.false_eq_true, if_false, h2, List.length_cons, Nat.zero_lt_succ, if_true]
  rw [← List.cons_append, show ((c :: l) ++ r).take (l.length + 1) = c :: l by rw [List.take_append_of_le_length (by simp)]; simp, h3]
  simp
def simpleB : List UInt8 := [38, 124, 40, 41, 91, 93, 44, 70, 71, 85, 82]
theorem tok_simple : ∀ c ∈ simpleB, ∀ r, nextT ([c] ++ r) = (0, tS [c]) := by
  intro c hc r
  simp only [simpleB, List.mem_cons, List.not_mem_nil, or_false] at hc
  rcases hc with rfl | rfl | rfl | rfl | rfl | rfl | rfl | rfl | rfl | rfl | rfl <;> (cases r with
    | nil => simp [nextT, numLen, signLen, smallB, digB, sgn2, sgn1, tS]
    | cons d t => cases t with
      | nil => simp [nextT, numLen, signLen, smallB, digB, sgn2, sgn1, tS]
      | cons e t => simp [nextT, numLen, signLen, smallB, digB, sgn2, sgn1, tS])
/-- A sign with a blank behind it. -/
theorem tok_blank : ∀ s ∈ [[45, 62], [60, 45, 62], [61], [33, 61], [60], [60, 61], [62], [62, 61], [38], [124]], ∀ r, nextT (s ++ 32 :: r) = (0, tS s) := by
  intro s hs r
  simp only [List.mem_cons, List.not_mem_nil, or_false] at hs
  rcases hs with rfl | rfl | rfl | rfl | rfl | rfl | rfl | rfl | rfl | rfl <;> simp [nextT, numLen, signLen, smallB, digB, sgn2, sgn1, tS]
/-- A '!' with no '=' behind it. -/
theorem tok_not (r : List UInt8) (h : ∀ t, ¬ r = 61 :: t) : nextT ([33] ++ r) = (0, tS [33]) := by
  cases r with
  | nil => simp [nextT, numLen, signLen, smallB, digB, sgn2, sgn1, tS]
  | cons d t =>
    have hd : ¬ d = 61 := fun e => h t (by rw [e])
    cases t with
    | nil => simp [nextT, numLen, signLen, smallB, digB, sgn2, sgn1, tS, hd]
    | cons e t => simp [nextT, numLen, signLen, smallB, digB, sgn2, sgn1, tS, hd]
end Go.Proofs.YtfebkjoohnlifaaDoor
namespace Go.Proofs.YtfebkjoohnlifaaDoor

/-- What may stand behind a formula. -/
def Tm (r : List UInt8) : Prop := r = [] ∨ (∃ t, r = 32 :: t) ∨ ∃ t, r = 41 :: t
theorem Tm.stop {r : List UInt8} (h : Tm r) : Stop r := by
  rintro c t rfl
  rcases h with h | ⟨_, h⟩ | ⟨_, h⟩ <;> cases h <;> rfl
/-- Every token of l, with what stands behind it, reads back as itself. -/
def OkC : List (Option TK) → List UInt8 → Prop
  | [], _ => True
  | none :: l, r => OkC l r
  | some T :: l, r => (nextT (T.text ++ (render l ++ r)) = (0, T) ∧ ∃ c t, T.text = c :: t ∧ c ≠ 32) ∧ OkC l r
theorem okC_app : ∀ (a b : List (Option TK)) (r : List UInt8), OkC a (render b ++ r) → OkC b r → OkC (a ++ b) r
  | [], _, _, _, h => h
  | none :: a, b, r, h1, h2 => okC_app a b r h1 h2
  | some T :: a, b, r, h1, h2 => by
    refine ⟨⟨?_, h1.1.2⟩, okC_app a b r h1.2 h2⟩
    rw [show render (a.append b) = render a ++ render b from render_app a b, List.append_assoc]; exact h1.1.1
def St (l : List (Option TK)) : Prop := ∃ c t, render l = c :: t ∧ c ≠ 61
structure Fine (l : List (Option TK)) : Prop where
  ok : ∀ r, Tm r → OkC l r
  st : St l
theorem okW {s : List UInt8} {c : UInt8} {l : List UInt8} (hs : s = c :: l) (hc : smallB c = true) (hl : ∀ d ∈ l, wordB d = true) (hlen : s.length ≤ 12) (r : List UInt8) (hr : Stop r) : nextT ((tW s).text ++ r) = (0, tW s) ∧ ∃ c t, (tW s).text = c :: t ∧ c ≠ 32 :=
  ⟨tok_word hs hc hl hlen r hr, c, l, hs, by rintro rfl; revert hc; decide⟩
theorem okS1 (c : UInt8) (h : c ∈ simpleB) (r : List UInt8) : nextT ((tS [c]).text ++ r) = (0, tS [c]) ∧ ∃ d t, (tS [c]).text = d :: t ∧ d ≠ 32 := by
  refine ⟨tok_simple c h r, c, [], rfl, ?_⟩
  rintro rfl; revert h; decide
theorem okN {n : Int} (hn : I64 n) (r : List UInt8) (hr : Stop r) : nextT ((tN n).text ++ r) = (0, tN n) ∧ ∃ d t, (tN n).text = d :: t ∧ d ≠ 32 := by
  refine ⟨tok_num hn r hr, ?_⟩
  obtain ⟨c, l, hc, _, h⟩ := pdig_head n
  exact ⟨c, l, hc, by rintro rfl; first | exact h rfl | (revert h; decide) | (simp at h)⟩
theorem okB (s : List UInt8) (h : s ∈ [[45, 62], [60, 45, 62], [61], [33, 61], [60], [60, 61], [62], [62, 61], [38], [124]]) (r : List UInt8) : nextT ((tS s).text ++ 32 :: r) = (0, tS s) ∧ ∃ d t, (tS s).text = d :: t ∧ d ≠ 32 := by
  refine ⟨tok_blank s h r, ?_⟩
  simp only [List.mem_cons, List.not_mem_nil, or_false] at h
  rcases h with rfl | rfl | rfl | rfl | rfl | rfl | rfl | rfl | rfl | rfl <;> exact ⟨_, _, rfl, by decide⟩
theorem stop1 (c : UInt8) (h : stopB c = true) (r : List UInt8) : Stop (c :: r) := by
  rintro d t e; cases e; exact h
theorem ok_span {lo hi : Int} (h1 : I64 lo) (h2 : I64 hi) (r : List UInt8) : OkC (spanI lo hi) r := by
  show OkC [some (tS [91]), some (tN lo), some (tS [44]), some (tN hi), some (tS [93])] r
  refine ⟨okS1 91 (by decide) _, okN h1 _ ?_, okS1 44 (by decide) _, okN h2 _ ?_, okS1 93 (by decide) _, trivial⟩
  · exact stop1 44 rfl _
  · exact stop1 93 rfl _
theorem st_app {a b : List (Option TK)} (h : St a) : St (a ++ b) := by
  obtain ⟨c, t, h1, h2⟩ := h
  exact ⟨c, t ++ render b, by rw [render_app, h1, List.cons_append], h2⟩
/-- What a node holds fits. -/
structure Nm (x : Nd) : Prop where
  val : I64 x.val
  lo : I64 x.lo
  hi : I64 x.hi
theorem nm_word {s : ByteArray} (h : nmOk s = true) : ∃ c l, s.data.toList = c :: l ∧ smallB c = true ∧ (∀ d ∈ l, wordB d = true) ∧ s.data.toList.length ≤ 12 := by
  unfold nmOk at h
  simp only [Bool.and_eq_true, decide_eq_true_eq, List.all_eq_true, List.mem_range] at h
  obtain ⟨⟨⟨⟨h1, h2⟩, _⟩, _⟩, h3⟩ := h
  have hl : s.data.toList.length = s.size := by simp
  cases hs : s.data.toList with
  | nil => rw [hs] at hl; simp at hl; omega
  | cons c l =>
    refine ⟨c, l, rfl, ?_, ?_, by rw [← hs]; omega⟩
    · have := h3 0 (by omega)
      unfold byteAt at this
      rw [hs, nmB_iff] at this
      simp only [List.getD_cons_zero] at this
      simp only [smallB, Bool.and_eq_true, decide_eq_true_eq]
      omega
    · intro d hd
      obtain ⟨i, hi, rfl⟩ := List.mem_iff_getElem.1 hd
      have := h3 (i + 1) (by rw [← hl, hs, List.length_cons]; omega)
      unfold byteAt at this
      rw [hs, nmB_iff] at this
      rw [List.getD_cons_succ, List.getD_eq_getElem?_getD, List.getElem?_eq_getElem hi, Option.getD_some] at this
      simp only [wordB, smallB, digB, Bool.or_eq_true, Bool.and_eq_true, decide_eq_true_eq, beq_iff_eq]
      rcases this with h | ⟨_, h | h⟩
      · exact .inl (.inl h)
      · exact .inl (.inr h)
      · exact .inr (UInt8.toNat_inj.1 h)
theorem cmpK_mem {c : Int} : cmpK c ∈ [[45, 62], [60, 45, 62], [61], [33, 61], [60], [60, 61], [62], [62, 61], [38], [124]] := by
  unfold cmpK; (repeat' split) <;> decide
theorem small_not {c : UInt8} (h : smallB c = true) : c ≠ 61 := by rintro rfl; revert h; decide
theorem fine_leaf {x : Nd} {n : Nat} (h : wrongN x n = 0) (hx : Nm x) (h0 : kidsN x.op = 0) : Fine (leafI x) := by
  have hp := wrong_parts h
  have ho : x.op ≤ 3 := by unfold kidsN at h0; revert h0; (repeat' split) <;> (intro h0; first | omega | (exact absurd h0 (by decide)))
  unfold leafI
  by_cases h1 : x.op = 1
  · rw [if_pos h1]
    exact ⟨fun r hr => ⟨okW (c := 116) rfl (by decide) (by decide) (by decide) _ hr.stop, trivial⟩, 116, [114, 117, 101], rfl, by decide⟩
  by_cases h2 : x.op = 2
  · rw [if_neg h1, if_pos h2]
    exact ⟨fun r hr => ⟨okW (c := 102) rfl (by decide) (by decide) (by decide) _ hr.stop, trivial⟩, 102, [97, 108, 115, 101], rfl, by decide⟩
  rw [if_neg h1, if_neg h2]
  obtain ⟨c, l, hs, hc, hl, hlen⟩ := nm_word (hp.2.2.2.2.1 (by omega))
  by_cases h3 : x.cmp = 0
  · rw [if_pos h3]
    exact ⟨fun r hr => ⟨okW hs hc hl hlen _ hr.stop, trivial⟩, c, l, by simp [render, itB, tW, hs], small_not hc⟩
  · rw [if_neg h3]
    refine ⟨fun r hr => ⟨okW hs hc hl hlen _ (stop1 32 rfl _), okB _ cmpK_mem _, okN hx.val _ hr.stop, trivial⟩, c, l ++ render [none, some (tS (cmpK x.cmp)), none, some (tN x.val)], ?_, small_not hc⟩
    rw [render_cons, ← List.cons_append, ← hs]; rfl
theorem fine_wrap {p : Int} {k : Int × List (Option TK)} (h : Fine k.2) : Fine (wrapI p k) := by
  unfold wrapI
  by_cases hp : placeN k.1 < p
  · rw [if_pos hp]
    refine ⟨fun r hr => ⟨okS1 40 (by decide) _, okC_app _ _ _ (h.ok _ (.inr (.inr ⟨_, rfl⟩))) ⟨okS1 41 (by decide) _, trivial⟩⟩, 40, _, rfl, by decide⟩
  · rw [if_neg hp]; exact h
theorem fine_node {x : Nd} {n : Nat} (h : wrongN x n = 0) (hx : Nm x) {a : List (Int × List (Option TK))} (h0 : 1 ≤ n → Fine (ki0 a).2) (h1 : 2 ≤ n → Fine (ki1 a).2) : Fine (nodeI x a) := by
  have hp := wrong_parts h
  have hn := hp.1.2.2
  unfold nodeI
  by_cases hk : kidsN x.op = 0
  · rw [if_pos hk]; exact fine_leaf h hx hk
  by_cases hk1 : kidsN x.op = 1
  · rw [if_neg hk, if_pos hk1]
    have w := fine_wrap (p := pl0 x.op) (h0 (by omega))
    obtain ⟨c, t, hc, hc61⟩ := w.st
    rcases op_one hk hk1 with e | e | e
    · have es : signI x = [some (tS [33])] := by unfold signI; rw [if_pos e]
      rw [es]
      refine ⟨fun r hr => ⟨⟨?_, 33, [], rfl, by decide⟩, w.ok r hr⟩, 33, render (wrapI (pl0 x.op) (ki0 a)), rfl, by decide⟩
      refine tok_not _ fun t2 e2 => ?_
      rw [show render ([].append (wrapI (pl0 x.op) (ki0 a))) = render (wrapI (pl0 x.op) (ki0 a)) from rfl, hc] at e2
      exact hc61 (List.cons.inj e2).1
    · have es : signI x = some (tS [70]) :: (spanI x.lo x.hi ++ [none]) := by unfold signI; simp [e]
      rw [es]
      refine ⟨fun r hr => okC_app _ _ _ ⟨okS1 70 (by decide) _, okC_app _ _ _ (ok_span hx.lo hx.hi _) trivial⟩ (w.ok r hr), st_app ⟨70, _, rfl, by decide⟩⟩
    · have es : signI x = some (tS [71]) :: (spanI x.lo x.hi ++ [none]) := by unfold signI; simp [e]
      rw [es]
      refine ⟨fun r hr => okC_app _ _ _ ⟨okS1 71 (by decide) _, okC_app _ _ _ (ok_span hx.lo hx.hi _) trivial⟩ (w.ok r hr), st_app ⟨71, _, rfl, by decide⟩⟩
  · rw [if_neg hk, if_neg hk1]
    have hk2 : kidsN x.op = 2 := by unfold kidsN at hk hk1 ⊢; revert hk hk1; (repeat' split) <;> simp
    have w0 := fine_wrap (p := pl0 x.op) (h0 (by omega))
    have w1 := fine_wrap (p := pl1 x.op) (h1 (by omega))
    refine ⟨fun r hr => ?_, st_app w0.st⟩
    refine okC_app _ _ _ (w0.ok _ (.inr (.inl ⟨_, rfl⟩))) ?_
    show OkC ((signI x ++ [none]) ++ wrapI (pl1 x.op) (ki1 a)) r
    refine okC_app _ _ _ ?_ (w1.ok r hr)
    rcases op_two ⟨hp.1.1, hp.1.2.1⟩ hk hk1 with e | e | e | e | e | e
    · rw [show signI x = [some (tS [38])] by unfold signI; simp [e]]; exact ⟨okB _ (by decide) _, trivial⟩
    · rw [show signI x = [some (tS [124])] by unfold signI; simp [e]]; exact ⟨okB _ (by decide) _, trivial⟩
    · rw [show signI x = [some (tS [45, 62])] by unfold signI; simp [e]]; exact ⟨okB _ (by decide) _, trivial⟩
    · rw [show signI x = [some (tS [60, 45, 62])] by unfold signI; simp [e]]; exact ⟨okB _ (by decide) _, trivial⟩
    · rw [show signI x = some (tS [85]) :: spanI x.lo x.hi by unfold signI; simp [e]]; exact ⟨okS1 85 (by decide) _, okC_app _ _ _ (ok_span hx.lo hx.hi _) trivial⟩
    · rw [show signI x = some (tS [82]) :: spanI x.lo x.hi by unfold signI; simp [e]]; exact ⟨okS1 82 (by decide) _, okC_app _ _ _ (ok_span hx.lo hx.hi _) trivial⟩
def Tr.nm : Tr → Prop
  | .nil => True
  | .cons x k r => Nm x ∧ k.nm ∧ r.nm
theorem all_fine : ∀ (t : Tr), t.good → t.nm → ∀ k, k < t.len → Fine ((t.items).getD k (0, [])).2
  | .nil, _, _, k, h => by simp [Tr.len] at h
  | .cons x kd r, hg, hm, 0, _ => fine_node hg.1 hm.1 (fun h => all_fine kd hg.2.1 hm.2.1 0 (by omega)) (fun h => all_fine kd hg.2.1 hm.2.1 1 (by omega))
  | .cons x kd r, hg, hm, k + 1, h => by
    have := all_fine r hg.2.2 hm.2.2 k (by simp only [Tr.len] at h; omega)
    simpa [Tr.items] using this
theorem fine_text {x : Nd} {ks : Tr} (h : wrongN x ks.len = 0) (hg : ks.good) (hx : Nm x) (hm : ks.nm) : Fine (itemsT x ks) := fine_node h hx (fun h => all_fine ks hg hm 0 (by omega)) (fun h => all_fine ks hg hm 1 (by omega))

/-- Reads tokens, with blanks between. -/
def lexF : Nat → List UInt8 → List TK
  | 0, _ => []
  | n + 1, s => match s with
    | [] => []
    | c :: r => if c = 32 then lexF n r else (nextT (c :: r)).2 :: lexF n ((c :: r).drop (nextT (c :: r)).2.text.length)
theorem lex_render : ∀ (l : List (Option TK)) (n : Nat), (render l).length ≤ n → OkC l [] → lexF n (render l) = strip l
  | [], n, _, _ => by cases n <;> rfl
  | none :: l, n, h, hk => by
    rw [show render (none :: l) = 32 :: render l from rfl] at h ⊢
    cases n with
    | zero => simp at h
    | succ n =>
      rw [show strip (none :: l) = strip l from rfl, ← lex_render l n (by simp only [List.length_cons] at h; omega) hk]
      simp [lexF]
  | some T :: l, n, h, hk => by
    obtain ⟨⟨h1, c, t, hT, hc⟩, h3⟩ := hk
    rw [show render (some T :: l) = T.text ++ render l from rfl] at h ⊢
    rw [List.append_nil] at h1
    cases n with
    | zero => rw [hT] at h; simp at h
    | succ n =>
      rw [show strip (some T :: l) = T :: strip l from rfl, ← lex_render l n (by rw [hT] at h; simp only [List.length_append, List.length_cons] at h; omega) h3]
      have e : lexF (n + 1) (T.text ++ render l) = (nextT (T.text ++ render l)).2 :: lexF n ((T.text ++ render l).drop (nextT (T.text ++ render l)).2.text.length) := by
        rw [hT, List.cons_append]
        simp [lexF, hc]
      rw [e, h1]
      simp
theorem text_inj {x y : Nd} {ks js : Tr} (hx : wrongN x ks.len = 0) (hk : ks.good) (hxm : Nm x) (hkm : ks.nm) (hy : wrongN y js.len = 0) (hj : js.good) (hym : Nm y) (hjm : js.nm) (h : textT x ks = textT y js) : x = y ∧ ks = js := by
  have a := text_both x ks
  have b := text_both y js
  have fa := (fine_text hx hk hxm hkm).ok [] (.inl rfl)
  have fb := (fine_text hy hj hym hjm).ok [] (.inl rfl)
  have e : render (itemsT x ks) = render (itemsT y js) := by rw [a.2, b.2, h]
  have la := lex_render _ _ (Nat.le_refl _) fa
  have lb := lex_render _ _ (Nat.le_refl _) fb
  rw [e, lb, a.1, b.1] at la
  exact toks_inj hx hk hy hj la.symm
end Go.Proofs.YtfebkjoohnlifaaDoor
