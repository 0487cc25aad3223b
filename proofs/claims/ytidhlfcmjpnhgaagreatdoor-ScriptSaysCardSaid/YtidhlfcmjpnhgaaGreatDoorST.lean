/- Messages, words, lines and steps, in plain words. -/
import Derived.Test.YtidhlfcmjpnhgaaGreatDoorQY1
import Derived.Test.YtidhlfcmjpnhgaaGreatDoorSG
import Derived.Test.YtidhlfcmjpnhgaaGreatDoorSC
import Derived.Test.YtidhlfcmjpnhgaaGreatDoorSB
namespace Go.Proofs.YtidhlfcmjpnhgaaGreatDoor

structure MC where
  kind : Int
  seq : Int
  at_ : Int
  props : List PP
/-- Whether a message may be. -/
def mayM (m : MC) : Bool :=
  if m.at_ < 0 ∨ 8 < m.props.length ∨ rightB m.props = false then false
  else if m.kind = 1 then decide (m.at_ = 0) && m.props.isEmpty
  else if m.kind = 2 then true
  else if m.kind = 3 then decide (m.seq = 0) && m.props.isEmpty
  else decide (m.kind = 4) && decide (m.seq = 0) && decide (m.at_ = 0) && m.props.isEmpty
def propO (p : PP) : List UInt8 := textO p.name.data.toList ++ numO (signO p.value)
/-- A message's body. -/
def putM (m : MC) : List UInt8 :=
  if m.kind = 1 then numO m.seq.toNat else if m.kind = 3 then numO m.at_.toNat else if m.kind = 4 then []
  else numO m.seq.toNat ++ numO m.at_.toNat ++ numO m.props.length ++ m.props.flatMap propO
def frameM (m : MC) : List UInt8 := if mayM m then frameO (UInt8.ofNat m.kind.toNat) (putM m) else []

structure ZC where
  kind : Int
  src : Int
  n : Int
  b : List UInt8
deriving DecidableEq
def z0 : ZC := ⟨0, 0, 0, []⟩
def wordsL : List (List UInt8) := [[116, 105, 99, 107], [98, 121, 116, 101, 115], [104, 101, 108, 108, 111], [101, 118, 101, 110, 116], [98, 101, 97, 116], [98, 121, 101], [100, 114, 97, 105, 110], [113, 117, 101, 114, 121], [99, 108, 111, 115, 101]]
/-- Which line a word begins; 9: none. -/
def wordN (w : List UInt8) : Nat := wordsL.idxOf w
/-- What a line's numbers are for: 1 a source, 2 a number, 3 a moment or ticks. -/
def usesN (q : Nat) : List Nat := [[3], [1], [1, 2], [1, 2, 3], [1, 3], [1], [], [], []].getD q []
def mostN (use : Nat) : Nat := if use = 1 then 7 else if use = 2 then 18446744073709551615 else 9223372036854775807
def natC (l : List UInt8) : Option Nat := if l = [] ∨ l.all digB = false ∨ (1 < l.length ∧ l.head? = some 48) then none else some (ddec 0 l)
def halfC (c : UInt8) : Option Nat := if 48 ≤ c.toNat ∧ c.toNat ≤ 57 then some (c.toNat - 48) else if 97 ≤ c.toNat ∧ c.toNat ≤ 102 then some (c.toNat - 87) else none
def pairsG : List UInt8 → Option (List UInt8)
  | [] => some []
  | [_] => none
  | a :: b :: r => match halfC a, halfC b with
    | some x, some y => (pairsG r).map (UInt8.ofNat (x * 16 + y) :: ·)
    | _, _ => none
def pairsC (l : List UInt8) : Option (List UInt8) := if l = [45] then some [] else pairsG l
/-- A value's word: the number, and whether it fits. -/
def valueC (v : List UInt8) : Option (Int × Bool) :=
  if v.head? = some 45 then match natC v.tail with
    | none => none
    | some n => if v.tail = [48] then none else if n ≤ 9223372036854775808 then some (-(n : Int), true) else some (0, false)
  else match natC v with
    | none => none
    | some n => if n ≤ 9223372036854775807 then some ((n : Int), true) else some (0, false)
def propC (w : List UInt8) : Option (PP × Bool) :=
  if (61 : UInt8) ∈ w ∧ nmOk ⟨(w.takeWhile (· != 61)).toArray⟩ = true then
    match valueC ((w.dropWhile (· != 61)).drop 1) with
    | none => none
    | some (n, f) => some (⟨⟨(w.takeWhile (· != 61)).toArray⟩, n⟩, f)
  else none
/-- What a line's words have said. -/
structure SC where
  ns : List Nat
  b : List UInt8
  ps : List PP
  fits : Bool
def s0 : SC := ⟨[], [], [], true⟩
def wordS (q i : Nat) (x : List UInt8) (s : SC) : Option SC :=
  if i < (usesN q).length then (natC x).map fun n => { s with ns := s.ns ++ [n], fits := s.fits && decide (n ≤ mostN ((usesN q).getD i 0)) }
  else if q = 1 then (pairsC x).map fun b => { s with b := b }
  else (propC x).map fun p => { s with ps := s.ps ++ [p.1], fits := s.fits && p.2 }
def goS (q : Nat) : Nat → List (List UInt8) → SC → Option SC
  | _, [], s => some s
  | i, x :: r, s => match wordS q i x s with
    | none => none
    | some t => goS q (i + 1) r t
def wantsN (q : Nat) : Nat := (usesN q).length + (if q = 1 then 1 else 0)
def msgS (q : Nat) (ns : List Nat) (ps : List PP) : MC :=
  if q = 2 then ⟨1, ns.getD 1 0, 0, []⟩ else if q = 3 then ⟨2, ns.getD 1 0, ns.getD 2 0, lof ps⟩ else if q = 4 then ⟨3, 0, ns.getD 1 0, []⟩ else ⟨4, 0, 0, []⟩
def madeS (q : Nat) (s : SC) : Int × ZC :=
  if q = 0 then (0, ⟨1, 0, s.ns.getD 0 0, []⟩) else if q = 6 then (0, ⟨3, 0, 0, []⟩) else if q = 7 then (0, ⟨4, 0, 0, []⟩) else if q = 8 then (0, ⟨5, 0, 0, []⟩)
  else if q = 1 then (0, ⟨2, s.ns.getD 0 0, 0, s.b⟩)
  else if mayM (msgS q s.ns s.ps) then (0, ⟨2, s.ns.getD 0 0, 0, frameM (msgS q s.ns s.ps)⟩) else (11, z0)
/-- The words behind a line's first one. -/
def rowS (q : Nat) (r : List (List UInt8)) : Int × ZC :=
  if r.length < wantsN q ∨ (wantsN q < r.length ∧ q ≠ 3) then (11, z0)
  else match goS q 0 r s0 with
    | none => (11, z0)
    | some s => if s.fits = true then madeS q s else (33, z0)
def lineS (w : List UInt8) (r : List (List UInt8)) : Int × ZC := if wordN w = 9 then (30, z0) else rowS (wordN w) r
def loopS : Nat → List ZC → List (List UInt8) → List ZC × Int × Int
  | _, acc, [] => (acc, 0, 0)
  | i, acc, x :: r => match wordsC x with
    | [] => loopS (i + 1) acc r
    | w :: ws => if w.head? = some 35 then loopS (i + 1) acc r else if (lineS w ws).1 = 0 then loopS (i + 1) (acc ++ [(lineS w ws).2]) r else ([], (lineS w ws).1, (i + 1 : Nat))
/-- What comes of a text: the steps, what is wrong, the line. -/
def readS (l : List UInt8) : List ZC × Int × Int := if 8192 < l.length then ([], 13, 0) else loopS 0 [] (splitC 10 l)
end Go.Proofs.YtidhlfcmjpnhgaaGreatDoor

/- Texts of steps in plain words: two behind one another; an event's line. -/
namespace Go.Proofs.YtidhlfcmjpnhgaaGreatDoor

theorem splitC_join (b : UInt8) (t : List UInt8) : ∀ s : List UInt8, splitC b (s ++ b :: t) = splitC b s ++ splitC b t
  | [] => by simp [splitC_cons, splitC]
  | c :: r => by
    rw [List.cons_append, splitC_cons, splitC_cons, splitC_join b t r]
    split
    · rfl
    · cases h : splitC b r with
      | nil => exact absurd h (splitC_ne b r)
      | cons x xs => rfl
theorem splitC_count (b : UInt8) : ∀ s : List UInt8, (splitC b s).length = s.count b + 1
  | [] => rfl
  | c :: r => by
    rw [splitC_cons]
    have ih := splitC_count b r
    by_cases h : c = b
    · subst h; rw [if_pos rfl]; simp [ih]
    · rw [if_neg h, List.count_cons_of_ne (fun e => h e)]
      cases hr : splitC b r with
      | nil => exact absurd hr (splitC_ne b r)
      | cons x xs => rw [hr] at ih; simpa [onto] using ih
/-- What is made of a text's first lines is made of it whole. -/
theorem loopS_acc : ∀ (r : List (List UInt8)) (i : Nat) (acc : List ZC), loopS i acc r = if (loopS 0 [] r).2.1 = 0 then (acc ++ (loopS 0 [] r).1, 0, 0) else ([], (loopS 0 [] r).2.1, (loopS 0 [] r).2.2 + i)
  | [], i, acc => by simp [loopS]
  | x :: r, i, acc => by
    have h1 := loopS_acc r
    unfold loopS
    cases hw : wordsC x with
    | nil =>
      simp only
      rw [h1 (i + 1) acc, h1 (0 + 1) []]
      split
      · rename_i h; simp
      · rename_i h; simp; omega
    | cons w ws =>
      simp only
      by_cases h35 : w.head? = some 35
      · rw [if_pos h35, if_pos h35, h1 (i + 1) acc, h1 (0 + 1) []]
        split
        · rename_i h; simp
        · rename_i h; simp; omega
      · rw [if_neg h35, if_neg h35]
        by_cases he : (lineS w ws).1 = 0
        · rw [if_pos he, if_pos he, h1 (i + 1), h1 (0 + 1)]
          split
          · rename_i h; simp
          · rename_i h; simp; omega
        · rw [if_neg he, if_neg he]
          simp only [he, if_false]
          simp
          omega
theorem loopS_cons (i : Nat) (acc : List ZC) (x : List UInt8) (r : List (List UInt8)) : loopS i acc (x :: r) = match wordsC x with
    | [] => loopS (i + 1) acc r
    | w :: ws => if w.head? = some 35 then loopS (i + 1) acc r else if (lineS w ws).1 = 0 then loopS (i + 1) (acc ++ [(lineS w ws).2]) r else ([], (lineS w ws).1, (i + 1 : Nat)) := by first | (rw [loopS]; done) | (rw [loopS]; rfl)
theorem loopS_app : ∀ (a b : List (List UInt8)) (i : Nat) (acc : List ZC), loopS i acc (a ++ b) = if (loopS i acc a).2.1 = 0 then loopS (i + a.length) (loopS i acc a).1 b else loopS i acc a
  | [], b, i, acc => by simp [loopS]
  | x :: a, b, i, acc => by
    have h1 := loopS_app a b
    rw [List.cons_append, loopS_cons i acc x (a ++ b), loopS_cons i acc x a]
    cases hw : wordsC x with
    | nil => simp only; rw [h1, List.length_cons, show i + 1 + a.length = i + (a.length + 1) by omega]
    | cons w ws =>
      simp only
      by_cases h35 : w.head? = some 35
      · rw [if_pos h35, if_pos h35, h1, List.length_cons, show i + 1 + a.length = i + (a.length + 1) by omega]
      · rw [if_neg h35, if_neg h35]
        by_cases he : (lineS w ws).1 = 0
        · rw [if_pos he, if_pos he, h1, List.length_cons, show i + 1 + a.length = i + (a.length + 1) by omega]
        · rw [if_neg he, if_neg he]
          simp only [he, if_false]
/-- A step of the two texts' reading. -/
theorem readS_join {s t : List UInt8} (hs : s.length ≤ 2000) (ht : t.length ≤ 2000) :
    readS (s ++ 10 :: t) = if (readS s).2.1 = 0 then (if (readS t).2.1 = 0 then ((readS s).1 ++ (readS t).1, 0, 0) else ([], (readS t).2.1, (readS t).2.2 + (s.count 10 + 1 : Nat))) else readS s := by
  unfold readS
  have e1 : ¬ 8192 < (s ++ 10 :: t).length := by simp; omega
  have e2 : ¬ 8192 < s.length := by omega
  have e3 : ¬ 8192 < t.length := by omega
  rw [if_neg e1, if_neg e2, if_neg e3, splitC_join, loopS_app]
  split
  · rw [loopS_acc (splitC 10 t), Nat.zero_add, splitC_count]
  · rfl
/-- What is wrong is told with no steps, in a line that is there. -/
theorem loopS_bad : ∀ (r : List (List UInt8)) (i : Nat) (acc : List ZC), (loopS i acc r).2.1 ≠ 0 → (loopS i acc r).1 = [] ∧ 0 < (loopS i acc r).2.2
  | [], i, acc, h => by simp [loopS] at h
  | x :: r, i, acc, h => by
    unfold loopS at h ⊢
    cases hw : wordsC x with
    | nil => rw [hw] at h; exact loopS_bad r _ _ h
    | cons w ws =>
      rw [hw] at h
      simp only at h ⊢
      by_cases h35 : w.head? = some 35
      · rw [if_pos h35] at h ⊢; exact loopS_bad r _ _ h
      · rw [if_neg h35] at h ⊢
        by_cases he : (lineS w ws).1 = 0
        · rw [if_pos he] at h ⊢; exact loopS_bad r _ _ h
        · rw [if_neg he]; exact ⟨rfl, by simp⟩
theorem loopS_ok : ∀ (r : List (List UInt8)) (i : Nat) (acc : List ZC), (loopS i acc r).2.1 = 0 → (loopS i acc r).2.2 = 0
  | [], i, acc, h => rfl
  | x :: r, i, acc, h => by
    unfold loopS at h ⊢
    cases hw : wordsC x with
    | nil => rw [hw] at h; exact loopS_ok r _ _ h
    | cons w ws =>
      rw [hw] at h
      simp only at h ⊢
      by_cases h35 : w.head? = some 35
      · rw [if_pos h35] at h ⊢; exact loopS_ok r _ _ h
      · rw [if_neg h35] at h ⊢
        by_cases he : (lineS w ws).1 = 0
        · rw [if_pos he] at h ⊢; exact loopS_ok r _ _ h
        · rw [if_neg he] at h; exact absurd h he
end Go.Proofs.YtidhlfcmjpnhgaaGreatDoor

/- An event that may be, as a line, is read as its frame: no program in sight. -/
namespace Go.Proofs.YtidhlfcmjpnhgaaGreatDoor
open Go.RowKit Go.Lib

theorem r_at {l : List PP} (h : rightB l = true) {k : Nat} (hk : k < l.length) : okAt l k l[k] = true := by
  unfold rightB at h
  rw [List.all_eq_true] at h
  have := h k (by simpa using hk)
  rwa [List.getD_eq_getElem?_getD, List.getElem?_eq_getElem hk] at this
theorem right_parts {l : List PP} (h : rightB l = true) : Asc l ∧ ∀ x ∈ l, nmOk x.name = true := by
  have H := fun k (hk : k < l.length) => r_at h (k := k) hk
  refine ⟨?_, ?_⟩
  · unfold Asc
    rw [List.pairwise_iff_getElem]
    intro i j hi hj hij
    induction j with
    | zero => omega
    | succ j ih =>
      have h1 := H (j + 1) hj
      rw [okAt_succ (by omega), Bool.and_eq_true] at h1
      have h2 : plt l[j] l[j + 1] := (paheadB_iff _ _).1 h1.2
      rcases Nat.lt_succ_iff_lt_or_eq.1 hij with h3 | h3
      · exact plt_trans (ih (by omega) h3) h2
      · subst h3; exact h2
  · intro x hx
    obtain ⟨k, hk, rfl⟩ := List.getElem_of_mem hx
    have h1 := H k hk
    unfold okAt at h1
    rw [Bool.and_eq_true] at h1
    exact h1.1
theorem lof_right {l : List PP} (h : rightB l = true) : lof l = l := lof_eq (right_parts h).1 fun _ => Iff.rfl
theorem name_bytes {s : ByteArray} (h : nmOk s = true) : s.data.toList ≠ [] ∧ s.data.toList.length ≤ 12 ∧ ∀ c ∈ s.data.toList, 48 ≤ c.toNat ∧ c ≠ 61 := by
  unfold nmOk at h
  simp only [Bool.and_eq_true, decide_eq_true_eq, List.all_eq_true, List.mem_range] at h
  obtain ⟨⟨⟨⟨h1, h2⟩, _⟩, _⟩, h3⟩ := h
  have hl : s.data.toList.length = s.size := by simp
  refine ⟨fun e => ?_, by omega, fun d hd => ?_⟩
  · rw [e] at hl; simp at hl; omega
  · obtain ⟨i, hi, rfl⟩ := List.mem_iff_getElem.1 hd
    have := h3 i (by omega)
    unfold byteAt at this
    rw [nmB_iff, List.getD_eq_getElem?_getD, List.getElem?_eq_getElem hi, Option.getD_some] at this
    refine ⟨by omega, fun e => ?_⟩
    rw [e] at this
    revert this
    rw [show (61 : UInt8).toNat = 61 from rfl]
    omega
theorem natC_dg (u : Nat) : natC (dg u) = some u := by
  unfold natC
  rw [if_neg, dg_dec]
  rintro (e | e | ⟨e1, e2⟩)
  · exact dg_ne u e
  · rw [all_digB (dg_digs u)] at e; cases e
  · have := dg_head u e2
    subst this
    revert e1; decide
theorem dg_not45 (u : Nat) : (dg u).head? ≠ some 45 := by
  intro h
  cases hd : dg u with
  | nil => exact dg_ne u hd
  | cons c r =>
    rw [hd] at h
    simp only [List.head?_cons, Option.some.injEq] at h
    have := dg_digs u c (by rw [hd]; simp)
    rw [h] at this
    revert this; decide
theorem valueC_digs {v : Int} (h : I64 v) : valueC (digsI v) = some (v, true) := by
  unfold I64 at h
  unfold valueC digsI
  by_cases h0 : v < 0
  · rw [if_pos h0]
    have hz : ¬ (45 :: dg v.natAbs).tail = [48] := by
      intro e
      have := congrArg (ddec 0) e
      rw [List.tail_cons, dg_dec] at this
      have e2 : ddec 0 [48] = 0 := by decide
      omega
    have hh : (45 :: dg v.natAbs : List UInt8).head? = some 45 := rfl
    have hnt : natC (45 :: dg v.natAbs : List UInt8).tail = some v.natAbs := natC_dg _
    rw [if_pos hh, hnt]
    simp only
    rw [if_neg hz, if_pos (by omega)]
    congr 2; omega
  · rw [if_neg h0, if_neg (dg_not45 _), natC_dg]
    simp only
    rw [if_pos (by omega)]
    congr 2; omega
/-- A proposition, as a word. -/
def propW (p : PP) : List UInt8 := p.name.data.toList ++ 61 :: digsI p.value
theorem takeW {a r : List UInt8} (h : ∀ c ∈ a, c ≠ 61) : (a ++ 61 :: r).takeWhile (· != 61) = a ∧ ((a ++ 61 :: r).dropWhile (· != 61)).drop 1 = r := by
  induction a with
  | nil => simp
  | cons c a ih =>
    have hc := h c (by simp)
    obtain ⟨i1, i2⟩ := ih fun d hd => h d (by simp [hd])
    rw [List.cons_append, List.takeWhile_cons, List.dropWhile_cons]
    simp only [bne_iff_ne, ne_eq, hc, not_false_eq_true, if_true]
    exact ⟨by rw [i1], i2⟩
theorem propC_word {p : PP} (hn : nmOk p.name = true) (hv : I64 p.value) : propC (propW p) = some (p, true) := by
  obtain ⟨t1, t2⟩ := takeW (r := digsI p.value) fun c hc => ((name_bytes hn).2.2 c hc).2
  have e : (⟨p.name.data.toList.toArray⟩ : ByteArray) = p.name := by cases p with | mk n v => cases n; rfl
  unfold propC propW
  rw [t1, t2, e, if_pos ⟨by simp, hn⟩, valueC_digs hv]
theorem digsI_word (v : Int) : WordC (digsI v) ∧ ∀ c ∈ digsI v, c.toNat ≠ 10 := by
  have h := word_dg v.natAbs
  unfold digsI
  split
  · refine ⟨⟨by simp, fun e => ?_, fun e => ?_⟩, fun c hc e => ?_⟩
    · rcases List.mem_cons.1 e with e | e
      · revert e; decide
      · exact h.2.1 e
    · rcases List.mem_cons.1 e with e | e
      · revert e; decide
      · exact h.2.2 e
    · rcases List.mem_cons.1 hc with rfl | hc
      · revert e; decide
      · have := dg_digs _ _ hc
        unfold digB at this
        simp at this
        omega
  · exact ⟨h, fun c hc e => h.2.2 (by rwa [show (10 : UInt8) = c from UInt8.toNat_inj.1 (by rw [e]; rfl)])⟩
theorem propW_word {p : PP} (hn : nmOk p.name = true) : WordC (propW p) := by
  have hb := name_bytes hn
  have hd := (digsI_word p.value).1
  unfold propW
  refine ⟨by simp, fun e => ?_, fun e => ?_⟩
  · rcases List.mem_append.1 e with e | e
    · have := (hb.2.2 _ e).1; revert this; decide
    · rcases List.mem_cons.1 e with e | e
      · revert e; decide
      · exact hd.2.1 e
  · rcases List.mem_append.1 e with e | e
    · have := (hb.2.2 _ e).1; revert this; decide
    · rcases List.mem_cons.1 e with e | e
      · revert e; decide
      · exact hd.2.2 e
theorem goS_props : ∀ (ps : List PP) (i : Nat) (s : SC), 3 ≤ i → (∀ p ∈ ps, nmOk p.name = true ∧ I64 p.value) → goS 3 i (ps.map propW) s = some { s with ps := s.ps ++ ps }
  | [], i, s, _, _ => by simp [goS]
  | p :: ps, i, s, hi, h => by
    have h1 := h p (by simp)
    have e3 : (usesN 3).length = 3 := rfl
    rw [List.map_cons, goS]
    have hw : wordS 3 i (propW p) s = some { s with ps := s.ps ++ [p], fits := s.fits && true } := by
      unfold wordS
      rw [if_neg (by omega), if_neg (by decide), propC_word h1.1 h1.2]
      rfl
    rw [hw]
    simp only
    rw [goS_props ps (i + 1) _ (by omega) (fun q hq => h q (by simp [hq]))]
    simp
/-- An event as a line. -/
def sayW (m : MC) (src : Nat) : List (List UInt8) := [dg src, dg m.seq.toNat, digsI m.at_] ++ m.props.map propW
def sayT (m : MC) (src : Nat) : List UInt8 := [101, 118, 101, 110, 116] ++ (sayW m src).flatMap (fun t => 32 :: t)
theorem event_parts {m : MC} (hk : m.kind = 2) (hm : mayM m = true) : 0 ≤ m.at_ ∧ m.props.length ≤ 8 ∧ rightB m.props = true := by
  unfold mayM at hm
  split at hm
  · cases hm
  · rename_i h
    rw [not_or, not_or] at h
    exact ⟨by omega, by omega, by have := h.2.2; revert this; cases rightB m.props <;> simp⟩
theorem len_words : ∀ (l : List (List UInt8)) (n : Nat), (∀ x ∈ l, x.length ≤ n) → (l.flatMap (fun t => (32 : UInt8) :: t)).length ≤ (n + 1) * l.length
  | [], n, _ => by simp
  | x :: l, n, h => by
    have h1 := h x (by simp)
    have h2 := len_words l n (fun y hy => h y (by simp [hy]))
    rw [List.flatMap_cons, List.length_append, List.length_cons, List.length_cons, Nat.mul_succ]
    omega
theorem read_say {m : MC} (hk : m.kind = 2) (hm : mayM m = true) {src : Nat} (hs : src < 256) (hq0 : 0 ≤ m.seq) (hq : m.seq < 18446744073709551616) (hat : m.at_ ≤ 9223372036854775807) (hv : ∀ p ∈ m.props, I64 p.value) :
    readS (sayT m src) = if src ≤ 7 then ([⟨2, src, 0, frameM m⟩], 0, 0) else ([], 33, 1) := by
  obtain ⟨ha, hl, hr⟩ := event_parts hk hm
  obtain ⟨hasc, hnm⟩ := right_parts hr
  have hW : ∀ t ∈ sayW m src, WordC t := by
    intro t ht
    unfold sayW at ht
    rcases List.mem_append.1 ht with ht | ht
    · simp only [List.mem_cons, List.not_mem_nil, or_false] at ht
      rcases ht with rfl | rfl | rfl
      · exact word_dg _
      · exact word_dg _
      · exact (digsI_word _).1
    · obtain ⟨p, hp, rfl⟩ := List.mem_map.1 ht
      exact propW_word (hnm p hp)
  have hL : ∀ t ∈ sayW m src, t.length ≤ 40 := by
    have hdi : ∀ v : Int, I64 v → (digsI v).length ≤ 20 := by
      intro v h
      unfold I64 at h
      have := dg_len v.natAbs 19 (by omega) (by omega)
      unfold digsI
      split
      · rw [List.length_cons]; omega
      · omega
    intro t ht
    unfold sayW at ht
    rcases List.mem_append.1 ht with ht | ht
    · simp only [List.mem_cons, List.not_mem_nil, or_false] at ht
      rcases ht with rfl | rfl | rfl
      · exact dg_len src 40 (by omega) (by omega)
      · exact dg_len m.seq.toNat 40 (by omega) (by omega)
      · have := hdi m.at_ (by unfold I64; omega); omega
    · obtain ⟨p, hp, rfl⟩ := List.mem_map.1 ht
      have h1 := (name_bytes (hnm p hp)).2.1
      have h2 := hdi p.value (hv p hp)
      unfold propW
      rw [List.length_append, List.length_cons]
      omega
  have hlen : (sayT m src).length ≤ 8192 := by
    have h1 := len_words (sayW m src) 40 hL
    have h2 : (sayW m src).length = 3 + m.props.length := by unfold sayW; simp; omega
    unfold sayT
    rw [List.length_append]
    simp only [List.length_cons, List.length_nil]
    rw [h2] at h1
    omega
  have hten : (10 : UInt8) ∉ sayT m src := by
    unfold sayT
    intro e
    rcases List.mem_append.1 e with e | e
    · revert e; decide
    · obtain ⟨t, ht, e⟩ := List.mem_flatMap.1 e
      rcases List.mem_cons.1 e with e | e
      · revert e; decide
      · exact (hW t ht).2.2 e
  have hwd : wordsC (sayT m src) = [101, 118, 101, 110, 116] :: sayW m src := wordsC_row _ (by unfold WordC; decide) hW
  have hgo : goS 3 0 (sayW m src) s0 = some ⟨[src, m.seq.toNat, m.at_.toNat], [], m.props, decide (src ≤ 7)⟩ := by
    have hda : digsI m.at_ = dg m.at_.toNat := by unfold digsI; rw [if_neg (by omega)]; congr 1; omega
    unfold sayW
    rw [hda]
    have w0 : ∀ s : SC, wordS 3 0 (dg src) s = some { s with ns := s.ns ++ [src], fits := s.fits && decide (src ≤ 7) } := fun s => by
      unfold wordS; rw [natC_dg]; rfl
    have w1 : ∀ s : SC, wordS 3 1 (dg m.seq.toNat) s = some { s with ns := s.ns ++ [m.seq.toNat], fits := s.fits && decide (m.seq.toNat ≤ 18446744073709551615) } := fun s => by
      unfold wordS; rw [natC_dg]; rfl
    have w2 : ∀ s : SC, wordS 3 2 (dg m.at_.toNat) s = some { s with ns := s.ns ++ [m.at_.toNat], fits := s.fits && decide (m.at_.toNat ≤ 9223372036854775807) } := fun s => by
      unfold wordS; rw [natC_dg]; rfl
    rw [List.cons_append, List.cons_append, List.cons_append, List.nil_append, goS, w0]
    simp only
    rw [goS, w1]
    simp only
    rw [goS, w2]
    simp only
    rw [goS_props _ _ _ (by omega) (fun p hp => ⟨hnm p hp, hv p hp⟩)]
    have d1 : decide (m.seq.toNat ≤ 18446744073709551615) = true := by simp; omega
    have d2 : decide (m.at_.toNat ≤ 9223372036854775807) = true := by simp; omega
    rw [d1, d2]
    simp [s0]
  have hmsg : msgS 3 [src, m.seq.toNat, m.at_.toNat] m.props = m := by
    unfold msgS
    rw [if_neg (by decide), if_pos rfl, lof_right hr]
    have e1 : (([src, m.seq.toNat, m.at_.toNat].getD 1 0 : Nat) : Int) = m.seq := by simp; omega
    have e2 : (([src, m.seq.toNat, m.at_.toNat].getD 2 0 : Nat) : Int) = m.at_ := by simp; omega
    rw [e1, e2, ← hk]
  have hline : lineS [101, 118, 101, 110, 116] (sayW m src) = if src ≤ 7 then (0, ⟨2, src, 0, frameM m⟩) else (33, z0) := by
    have hwn : wordN [101, 118, 101, 110, 116] = 3 := by decide
    have hw3 : wantsN 3 = 3 := by decide
    have h2 : (sayW m src).length = 3 + m.props.length := by unfold sayW; simp; omega
    unfold lineS
    rw [hwn, if_neg (by decide)]
    unfold rowS
    rw [hw3, if_neg (by omega), hgo]
    simp only [decide_eq_true_eq]
    split
    · unfold madeS
      simp only [Nat.reduceEqDiff, if_false, show ¬ (3 : Nat) = 0 by decide]
      rw [hmsg, if_pos hm]
      simp
    · rfl
  unfold readS
  rw [if_neg (by omega), splitC_none hten, loopS_cons, hwd]
  dsimp only
  rw [if_neg (show ¬ ([101, 118, 101, 110, 116] : List UInt8).head? = some 35 by decide), hline]
  by_cases h7 : src ≤ 7
  · rw [if_pos h7, if_pos h7]; simp [loopS]
  · rw [if_neg h7, if_neg h7]; simp
end Go.Proofs.YtidhlfcmjpnhgaaGreatDoor

/- The document's examples of scripts, in plain words. -/
namespace Go.Proofs.YtidhlfcmjpnhgaaGreatDoor
open Go.RowKit Go.Lib

def evP : List PP := [⟨⟨#[97]⟩, 1⟩, ⟨⟨#[98]⟩, -2⟩]
def evM : MC := ⟨2, 7, 30, evP⟩
def ev1 : List UInt8 := [101, 118, 101, 110, 116, 32, 48, 32, 55, 32, 51, 48, 32, 97, 61, 49, 32, 98, 61, 45, 50, 10, 10, 35, 32, 120, 10, 32, 100, 114, 97, 105, 110, 32, 32]
def ev2 : List UInt8 := [116, 105, 99, 107, 32, 48, 48, 55]
def ev3 : List UInt8 := [113, 117, 101, 114, 121, 10, 98, 101, 97, 116, 32, 56, 32, 49]
theorem evP_right : rightB evP = true := by decide +kernel
theorem evM_may : mayM evM = true := by decide +kernel
theorem ev_goS : goS 3 0 [[48], [55], [51, 48], [97, 61, 49], [98, 61, 45, 50]] s0 = some ⟨[0, 7, 30], [], evP, true⟩ := by kernel_rfl
theorem ev_line : lineS [101, 118, 101, 110, 116] [[48], [55], [51, 48], [97, 61, 49], [98, 61, 45, 50]] = (0, ⟨2, 0, 0, frameM evM⟩) := by
  unfold lineS
  rw [show wordN [101, 118, 101, 110, 116] = 3 by decide, if_neg (by decide)]
  unfold rowS
  rw [if_neg (by decide), ev_goS]
  simp only [if_true]
  unfold madeS
  simp only [Nat.reduceEqDiff, if_false, show ¬ (3 : Nat) = 0 by decide]
  have hm : msgS 3 [0, 7, 30] evP = evM := by
    unfold msgS
    rw [if_neg (by decide), if_pos rfl, lof_right evP_right]
    rfl
  rw [hm, if_pos evM_may]
  rfl
theorem ev_1 : readS ev1 = ([⟨2, 0, 0, frameM evM⟩, ⟨3, 0, 0, []⟩], 0, 0) := by
  unfold readS
  rw [if_neg (by decide)]
  have hs : splitC 10 ev1 = [[101, 118, 101, 110, 116, 32, 48, 32, 55, 32, 51, 48, 32, 97, 61, 49, 32, 98, 61, 45, 50], [], [35, 32, 120], [32, 100, 114, 97, 105, 110, 32, 32]] := by decide +kernel
  rw [hs, loopS_cons]
  have h1 : wordsC [101, 118, 101, 110, 116, 32, 48, 32, 55, 32, 51, 48, 32, 97, 61, 49, 32, 98, 61, 45, 50] = [101, 118, 101, 110, 116] :: [[48], [55], [51, 48], [97, 61, 49], [98, 61, 45, 50]] := by decide +kernel
  rw [h1]
  dsimp only
  rw [if_neg (by decide), ev_line]
  simp only [if_true, List.nil_append]
  rw [loopS_cons]
  have h2 : wordsC [] = [] := by decide +kernel
  rw [h2]
  dsimp only
  rw [loopS_cons]
  have h3 : wordsC [35, 32, 120] = [[35], [120]] := by decide +kernel
  rw [h3]
  dsimp only
  rw [if_pos (by decide), loopS_cons]
  have h4 : wordsC [32, 100, 114, 97, 105, 110, 32, 32] = [[100, 114, 97, 105, 110]] := by decide +kernel
  rw [h4]
  dsimp only
  have h5 : lineS [100, 114, 97, 105, 110] [] = (0, ⟨3, 0, 0, []⟩) := by decide +kernel
  rw [if_neg (by decide), h5]
  simp [loopS]
theorem ev_2 : readS ev2 = ([], 11, 1) := by decide +kernel
theorem ev_3 : readS ev3 = ([], 33, 2) := by decide +kernel
end Go.Proofs.YtidhlfcmjpnhgaaGreatDoor
