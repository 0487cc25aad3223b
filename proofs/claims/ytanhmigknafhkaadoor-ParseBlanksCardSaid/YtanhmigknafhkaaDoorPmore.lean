/- Two texts with a sign between; a shown formula's text; what is parsed is sound; blanks. Plain. -/
import Derived.Test.YtanhmigknafhkaaDoorPgood
namespace Go.Proofs.YtanhmigknafhkaaDoor
open Go.RowKit

def jsg (r : Nat) : List UInt8 := if r = 0 then [38] else if r = 1 then [124] else if r = 2 then [45, 62] else [60, 45, 62]
def jop (r : Nat) : Int := 5 + r
theorem jsg_tok (r : Nat) (hr : r < 4) (t : List UInt8) : nextT (jsg r ++ 40 :: t) = (0, tS (jsg r)) := by
  match r, hr with
  | 0, _ => exact tok_simple 38 (by decide) _
  | 1, _ => exact tok_simple 124 (by decide) _
  | 2, _ => simp [jsg, nextT, numLen, signLen, smallB, digB, sgn2, tS]
  | 3, _ => simp [jsg, nextT, numLen, signLen, smallB, digB, tS]
theorem jsg_head (r : Nat) (hr : r < 4) : ∃ c s, (tS (jsg r)).text = c :: s ∧ blankB c = false := by
  match r, hr with
  | 0, _ => exact ⟨38, [], rfl, by decide⟩
  | 1, _ => exact ⟨124, [], rfl, by decide⟩
  | 2, _ => exact ⟨45, [62], rfl, by decide⟩
  | 3, _ => exact ⟨60, [45, 62], rfl, by decide⟩
theorem jsg_len (r : Nat) : (jsg r).length ≤ 3 := by unfold jsg; (repeat' split) <;> decide
def joinT (s t : List UInt8) (r : Nat) : List UInt8 := 40 :: (s ++ 41 :: (jsg r ++ 40 :: (t ++ [41])))
section
variable {s t : List UInt8} {x y : Nd} {ks js : Tr} {o p : List (TK × Nat)}
theorem join_read (h : GoodT s x ks o) (k : GoodT t y js p) (hs : s.length ≤ 240) (ht : t.length ≤ 240) (r : Nat) (hr : r < 4) :
    ∃ us q, readT (joinT s t r) = ((0, 0), us ++ [(tk0, q)]) ∧ us.map (·.1) ++ [tk0] = tS [40] :: (o.map (·.1) ++ tS [41] :: (tS (jsg r) :: (tS [40] :: (p.map (·.1) ++ tS [41] :: [tk0])))) := by
  obtain ⟨c, s2, hc, hb⟩ := jsg_head r hr
  have hl := jsg_len r
  have h1 := h.shut (jsg r ++ 40 :: (t ++ [41])) 1
  have h2 : ∀ a, rdT a (jsg r ++ 40 :: (t ++ [41])) = ((rdT (a + (jsg r).length) (40 :: (t ++ [41]))).1, (tS (jsg r), a) :: (rdT (a + (jsg r).length) (40 :: (t ++ [41]))).2) := fun a => rdT_cons (T := tS (jsg r)) hc hb (jsg_tok r hr _) a
  have h3 : ∀ a, rdT a (40 :: (t ++ [41])) = _ := fun a => rd_open (t ++ [41]) a
  have h4 : ∀ a, rdT a (t ++ [41]) = _ := fun a => k.shut [] a
  refine ⟨(tS [40], 0) :: (moved 1 o ++ (tS [41], 1 + s.length) :: (tS (jsg r), 1 + s.length + 1) :: (tS [40], 1 + s.length + 1 + (jsg r).length) :: (moved (1 + s.length + 1 + (jsg r).length + 1) p ++ [(tS [41], 1 + s.length + 1 + (jsg r).length + 1 + t.length)])), 1 + s.length + 1 + (jsg r).length + 1 + t.length + 1, ?_, ?_⟩
  · refine readT_of (by simp [joinT]; omega) ?_
    unfold joinT
    rw [rd_open, Nat.zero_add, h1, h2, h3, h4, rdT_nil]
    simp
  · simp [moved_fst]
theorem nf_sign {p : Nat} {q : List UInt8} (E : List TK) (h1 : p ≤ 1 → q ≠ [60, 45, 62]) (h2 : p ≤ 2 → q ≠ [45, 62]) (h3 : p ≤ 3 → q ≠ [124]) (h4 : p ≤ 4 → q ≠ [38]) (h5 : q ≠ [85] ∧ q ≠ [82]) : NF p (tS q :: E) := by
  unfold NF
  simp only [sgn_tS, beq_eq_false_iff_ne, ne_eq]
  exact ⟨h1, h2, h3, h4, fun _ => h5⟩
theorem join_loop {us vs : List TK} {l : Nat} (hl : l = 1 ∨ l = 3 ∨ l = 4) (hu : ∀ t ∈ us, ¬ t.kind = 0) (hv : ∀ t ∈ vs, ¬ t.kind = 0) (h : Reads (.lev 1 (us ++ [tk0])) (.ok x ks [tk0])) (k : Reads (.lev 1 (vs ++ [tk0])) (.ok y js [tk0]))
    (hn : NF (l + 1) (tS (lsign l) :: (tS [40] :: (vs ++ tS [41] :: [tk0])))) : Reads (.lev 1 (tS [40] :: (us ++ tS [41] :: (tS (lsign l) :: (tS [40] :: (vs ++ tS [41] :: [tk0])))))) (.ok (nd1 (lop l) 0 0) (two x ks y js) [tk0]) := by
  have a := paren_at (E := tS (lsign l) :: (tS [40] :: (vs ++ tS [41] :: [tk0]))) hu h (p := l + 1) (by omega) (by omega) hn
  have b := paren_at (E := [tk0]) hv k (p := l + 1) (by omega) (by omega) (nf_end _)
  have c : Reads (.lp l (nd1 (lop l) 0 0) (two x ks y js) [tk0]) (.ok (nd1 (lop l) 0 0) (two x ks y js) [tk0]) := rd_stop rfl
  have d := rd_go (l := l) (r := tS (lsign l) :: (tS [40] :: (vs ++ tS [41] :: [tk0]))) (x := x) (ks := ks) (by rw [sgn_tS]; simp) b c
  have e := rd_up hl a d
  exact descend (p := 1) (by decide) (nf_end 1) (l - 1) (by omega) (by rw [show 1 + (l - 1) = l by omega]; exact e)
theorem join_reads (h : GoodT s x ks o) (k : GoodT t y js p) (r : Nat) (hr : r < 4) :
    Reads (.lev 1 (tS [40] :: (o.map (·.1) ++ tS [41] :: (tS (jsg r) :: (tS [40] :: (p.map (·.1) ++ tS [41] :: [tk0])))))) (.ok (nd1 (jop r) 0 0) (two x ks y js) [tk0]) := by
  match r, hr with
  | 0, _ => exact join_loop (l := 4) (by simp) h.kinds k.kinds h.reads k.reads (nf_sign _ (fun h => by omega) (fun h => by omega) (fun h => by omega) (fun h => by omega) (by decide))
  | 1, _ => exact join_loop (l := 3) (by simp) h.kinds k.kinds h.reads k.reads (nf_sign _ (fun h => by omega) (fun h => by omega) (fun h => by omega) (fun _ => by decide) (by decide))
  | 3, _ => exact join_loop (l := 1) (by simp) h.kinds k.kinds h.reads k.reads (nf_sign _ (fun h => by omega) (fun _ => by decide) (fun _ => by decide) (fun _ => by decide) (by decide))
  | 2, _ =>
    have a := paren_at (E := tS [45, 62] :: (tS [40] :: (p.map (·.1) ++ tS [41] :: [tk0]))) h.kinds h.reads (p := 3) (by omega) (by omega) (nf_sign _ (fun h => by omega) (fun h => by omega) (fun _ => by decide) (fun _ => by decide) (by decide))
    have b := paren_at (E := [tk0]) k.kinds k.reads (p := 2) (by omega) (by omega) (nf_end _)
    have e := rd2_go a (by rw [sgn_tS]; rfl) b
    exact descend (p := 1) (by decide) (nf_end 1) 1 (by omega) e
theorem join_parse (h : GoodT s x ks o) (k : GoodT t y js p) (hs : s.length ≤ 240) (ht : t.length ≤ 240) (r : Nat) (hr : r < 4) :
    (checkT (nd1 (jop r) 0 0) (two x ks y js) = 0 → ParseIs (joinT s t r) (.good (nd1 (jop r) 0 0) (two x ks y js))) ∧ (¬ checkT (nd1 (jop r) 0 0) (two x ks y js) = 0 → ParseIs (joinT s t r) (.bad (checkT (nd1 (jop r) 0 0) (two x ks y js)) 0)) := by
  obtain ⟨us, q, h1, h2⟩ := join_read h k hs ht r hr
  exact parse_good h1 (by rw [h2]; exact join_reads h k r hr)
end
end Go.Proofs.YtanhmigknafhkaaDoor
namespace Go.Proofs.YtanhmigknafhkaaDoor
open Go.RowKit

theorem nextT_blank {c : UInt8} {r : List UInt8} (h : blankB c = true) : ¬ (nextT (c :: r)).1 = 0 := by
  rcases (blank_iff c).1 h with rfl | rfl | rfl <;> simp [nextT, numLen, signLen, smallB, digB, sgn2, sgn1]
theorem rd_render : ∀ (l : List (Option TK)) (at_ : Nat), OkC l [] → ∃ o, rdT at_ (render l) = ((0, 0), o ++ [(tk0, at_ + (render l).length)]) ∧ o.map (·.1) = strip l
  | [], at_, _ => ⟨[], by simp [render, rdT_nil], rfl⟩
  | none :: l, at_, h => by
    obtain ⟨o, h1, h2⟩ := rd_render l (at_ + 1) h
    refine ⟨o, ?_, h2⟩
    rw [render_cons, show itB none = [32] from rfl, List.singleton_append, rdT_blank (by decide), h1, List.length_cons, Nat.add_assoc, Nat.add_comm 1]
  | some T :: l, at_, h => by
    obtain ⟨⟨h1, c, t, h2, _⟩, h3⟩ := h
    rw [List.append_nil] at h1
    obtain ⟨o, h4, h5⟩ := rd_render l (at_ + T.text.length) h3
    have hb : blankB c = false := by
      cases hb : blankB c
      · rfl
      · rw [h2, List.cons_append] at h1
        exact absurd (by rw [h1]) (nextT_blank (r := t ++ render l) hb)
    refine ⟨(T, at_) :: o, ?_, by simp [h5, strip]⟩
    rw [render_cons, show itB (some T) = T.text from rfl, rdT_cons h2 hb h1, h4, List.length_append, Nat.add_assoc]
    rfl
theorem checks_first {x : Nd} {ks : Tr} (h : checkT x ks = 0) : wrongN x ks.len = 0 ∧ ks.good := by
  unfold checkT at h
  by_cases h1 : 48 < ks.size + 1
  · rw [if_pos h1] at h; exact absurd h (by decide)
  rw [if_neg h1] at h
  by_cases h2 : 12 < ks.deep + 1
  · rw [if_pos h2] at h; exact absurd h (by decide)
  rw [if_neg h2] at h
  exact (good_first x ks).1 h
theorem nm_of {x : Nd} (h : NdOk x) : Nm x := ⟨h.val, h.lo, h.hi⟩
theorem trnm_of : ∀ {t : Tr}, t.ok → t.nm
  | .nil, _ => trivial
  | .cons _ _ _, h => ⟨nm_of h.1, trnm_of h.2.1, trnm_of h.2.2⟩
theorem show_text {x : Nd} {ks : Tr} (h : checkT x ks = 0) : showT x ks = textT x ks := by
  unfold showT
  rw [if_pos ((good_first x ks).2 (checks_first h))]
theorem text_parse {x : Nd} {ks : Tr} (hx : NdOk x) (hk : ks.ok) (h : checkT x ks = 0) :
    ((showT x ks).data.toList.length ≤ 512 → ParseIs (showT x ks).data.toList (.good x ks)) ∧ (512 < (showT x ks).data.toList.length → ParseIs (showT x ks).data.toList (.bad 13 0)) := by
  obtain ⟨hw, hg⟩ := checks_first h
  have ha := text_both x ks
  have hf := fine_text hw hg (nm_of hx) (trnm_of hk)
  rw [show_text h, ← ha.2]
  refine ⟨fun hl => ?_, fun hl => ?_⟩
  · obtain ⟨o, h1, h2⟩ := rd_render (itemsT x ks) 0 (hf.ok [] (.inl rfl))
    have hr := readT_of hl h1
    refine (parse_good hr ?_).1 h
    rw [h2, ha.1]
    have hat := (read_show ks.size x ks (Nat.le_refl _) hw hg).1 1 (by decide) (by decide) [tk0] rfl (nf_end 1)
    rw [wrapK_bare (by have := place_range x.op; omega)] at hat
    exact hat
  · have e : readT (render (itemsT x ks)) = ((13, 0), []) := by unfold readT; rw [if_pos hl]
    have := ParseIs.lex (l := render (itemsT x ks)) (by rw [e]; decide)
    rw [e] at this; exact this
theorem text_ne {x : Nd} {ks : Tr} (hx : NdOk x) (hk : ks.ok) (h : checkT x ks = 0) : ¬ (showT x ks).data.toList = [] := by
  intro e
  obtain ⟨hw, hg⟩ := checks_first h
  have ha := text_both x ks
  have hf := fine_text hw hg (nm_of hx) (trnm_of hk)
  rw [show_text h, ← ha.2] at e
  obtain ⟨c, t, h1, _⟩ := hf.st
  rw [h1] at e; cases e
/-- What is parsed has numbers that are numbers, and short names. -/
theorem parsed_fit {l : List UInt8} {x : Nd} {ks : Tr} (h : ParseIs l (.good x ks)) : Fit x ks := by
  cases h with
  | good h hk hr => exact (reads_left hr (remT_ok (readT_toks h) 0)).2.2
end Go.Proofs.YtanhmigknafhkaaDoor
namespace Go.Proofs.YtanhmigknafhkaaDoor
open Go.RowKit

/-- A word as it may be. -/
def TW (t : TK) : Prop := t.kind = 1 → ∃ c r, t.text = c :: r ∧ smallB c = true ∧ (∀ d ∈ r, wordB d = true) ∧ t.text.length ≤ 12
def AllW (ts : List TK) : Prop := ∀ t ∈ ts, TW t
theorem AllW.tail {ts : List TK} (h : AllW ts) : AllW ts.tail := fun t ht => h t (List.mem_of_mem_tail ht)
theorem AllW.hd {ts : List TK} (h : AllW ts) : TW (hd ts) := by
  cases ts with
  | nil => intro e; exact absurd e (by decide)
  | cons t r => exact h t (by simp)
def Snd : PR → Prop
  | .ok x ks r => (wrongN x ks.len = 0 ∧ ks.good) ∧ AllW r
  | _ => True
def SSnd : SR → Prop
  | .ok lo hi r => (0 ≤ lo ∧ lo ≤ hi) ∧ AllW r
  | _ => True
theorem Snd.bind {a : PR} {f : Nd → Tr → List TK → PR} (h : Snd a) (hf : ∀ x ks r, wrongN x ks.len = 0 → ks.good → AllW r → Snd (f x ks r)) : Snd (a.bind f) := by
  cases a with
  | ok x ks r => exact hf x ks r h.1.1 h.1.2 h.2
  | bad e r => trivial
  | out => trivial
theorem Snd.sbind {a : SR} {f : Int → Int → List TK → PR} (h : SSnd a) (hf : ∀ lo hi r, 0 ≤ lo → lo ≤ hi → AllW r → Snd (f lo hi r)) : Snd (a.bind f) := by
  cases a with
  | ok lo hi r => exact hf lo hi r h.1.1 h.1.2 h.2
  | bad e r => trivial
theorem span_snd {ts : List TK} (h : AllW ts) : SSnd (spanP ts) := by
  unfold spanP
  by_cases h1 : sgn ts [91] = false
  · rw [if_pos h1]; trivial
  rw [if_neg h1]
  by_cases h2 : ¬ (hd ts.tail).kind = 2 ∨ (hd ts.tail).num < 0
  · rw [if_pos h2]; trivial
  rw [if_neg h2]
  by_cases h3 : sgn ts.tail.tail [44] = false
  · rw [if_pos h3]; trivial
  rw [if_neg h3]
  by_cases h4 : ¬ (hd ts.tail.tail.tail).kind = 2 ∨ (hd ts.tail.tail.tail).num < 0
  · rw [if_pos h4]; trivial
  rw [if_neg h4]
  by_cases h5 : (hd ts.tail.tail.tail).num < (hd ts.tail).num
  · rw [if_pos h5]; trivial
  rw [if_neg h5]
  by_cases h6 : sgn ts.tail.tail.tail.tail [93] = false
  · rw [if_pos h6]; trivial
  rw [if_neg h6]
  exact ⟨⟨by omega, by omega⟩, h.tail.tail.tail.tail.tail⟩
theorem nm_of_word {l : List UInt8} {c : UInt8} {r : List UInt8} (hl : l = c :: r) (hc : smallB c = true) (hr : ∀ d ∈ r, wordB d = true) (hn : l.length ≤ 12) (h1 : ¬ l = trueW) (h2 : ¬ l = falseW) : nmOk ⟨l.toArray⟩ = true := by
  have hs : (⟨l.toArray⟩ : ByteArray).size = l.length := by simp [ByteArray.size]
  unfold nmOk
  simp only [Bool.and_eq_true, decide_eq_true_eq, List.all_eq_true, List.mem_range, ByteArray.toList_eq, hs, Bool.not_eq_true', beq_eq_false_iff_ne]
  refine ⟨⟨⟨⟨by rw [hl]; simp, hn⟩, h1⟩, h2⟩, fun i hi => ?_⟩
  unfold byteAt
  subst hl
  cases i with
  | zero =>
    rw [nmB_iff]
    simp only [smallB, Bool.and_eq_true, decide_eq_true_eq] at hc
    exact .inl (by simpa using hc)
  | succ i =>
    rw [nmB_iff]
    have hi' : i < r.length := by simpa using hi
    have := hr r[i] (List.getElem_mem hi')
    simp only [wordB, smallB, digB, Bool.or_eq_true, Bool.and_eq_true, decide_eq_true_eq, beq_iff_eq] at this
    rw [show (c :: r).getD (i + 1) 0 = r[i] by rw [List.getD_cons_succ, List.getD_eq_getElem?_getD, List.getElem?_eq_getElem hi', Option.getD_some]]
    rcases this with (h | h) | h
    · exact .inl h
    · exact .inr ⟨by omega, .inl h⟩
    · exact .inr ⟨by omega, .inr (by rw [h]; rfl)⟩
theorem cmp_range (t : TK) : 0 ≤ cmpOf t ∧ cmpOf t ≤ 6 := by unfold cmpOf; (repeat' split) <;> omega
theorem wrong_atom {s : ByteArray} {c v : Int} (h : nmOk s = true) (hc : 0 ≤ c ∧ c ≤ 6) (hv : c = 0 → v = 0) : wrongN ⟨3, s, c, v, 0, 0⟩ 0 = 0 := by
  unfold wrongN
  rw [if_neg (by simp [kidsN]), if_neg (by simp), if_neg (by simp), if_neg (by simp only; omega), if_neg (by simp [h]), if_neg (by simp)]
theorem wrong_nd {op lo hi : Int} {n : Nat} (h1 : 1 ≤ op) (h2 : op ≤ 12) (h3 : op ≠ 3) (hk : n = kidsN op) (h9 : op < 9 → lo = 0 ∧ hi = 0) (hs : 9 ≤ op → 0 ≤ lo ∧ lo ≤ hi) : wrongN (nd1 op lo hi) n = 0 := by
  unfold wrongN nd1
  rw [if_neg (by simp only [hk]; omega), if_neg (by simp [ByteArray.toList_eq]), if_neg (by simp only; omega), if_neg (by simp), if_neg (by simp [h3])]
  by_cases h : 9 ≤ op
  · rw [if_neg (by simp [spanB, hs h])]
  · rw [if_neg (by simp [h])]
theorem word_snd {ts : List TK} (h : AllW ts) : Snd (wordP ts) := by
  unfold wordP
  by_cases h1 : ¬ (hd ts).kind = 1
  · rw [if_pos h1]; trivial
  rw [if_neg h1]
  by_cases h2 : (hd ts).text = trueW
  · rw [if_pos h2]; exact ⟨⟨wrong_nd (by decide) (by decide) (by decide) rfl (fun _ => ⟨rfl, rfl⟩) (fun h => by omega), trivial⟩, h.tail⟩
  rw [if_neg h2]
  by_cases h3 : (hd ts).text = falseW
  · rw [if_pos h3]; exact ⟨⟨wrong_nd (by decide) (by decide) (by decide) rfl (fun _ => ⟨rfl, rfl⟩) (fun h => by omega), trivial⟩, h.tail⟩
  rw [if_neg h3]
  obtain ⟨c, r, e1, e2, e3, e4⟩ := h.hd (by omega)
  have hn := nm_of_word e1 e2 e3 e4 h2 h3
  by_cases h4 : cmpOf (hd ts.tail) = 0
  · rw [if_pos h4]; exact ⟨⟨wrong_atom hn (by decide) (fun _ => rfl), trivial⟩, h.tail⟩
  rw [if_neg h4]
  by_cases h5 : ¬ (hd ts.tail.tail).kind = 2
  · rw [if_pos h5]; trivial
  rw [if_neg h5]
  exact ⟨⟨wrong_atom hn (cmp_range _) (fun e => absurd e h4), trivial⟩, h.tail.tail.tail⟩
def Job.snd : Job → Prop
  | .lev _ ts => AllW ts
  | .lp _ x ks ts => (wrongN x ks.len = 0 ∧ ks.good) ∧ AllW ts
theorem lop_ok (l : Nat) : 1 ≤ lop l ∧ lop l < 9 ∧ lop l ≠ 3 ∧ 2 = kidsN (lop l) := by unfold lop; (repeat' split) <;> decide
theorem snd_body {S : Job → PR} (hS : ∀ j, j.snd → Snd (S j)) : ∀ j, j.snd → Snd (bodyP S j) := by
  have lev : ∀ l ts, AllW ts → Snd (S (.lev l ts)) := fun l ts h => hS (.lev l ts) h
  have lp : ∀ l x ks ts, wrongN x ks.len = 0 → ks.good → AllW ts → Snd (S (.lp l x ks ts)) := fun l x ks ts h1 h2 h3 => hS (.lp l x ks ts) ⟨⟨h1, h2⟩, h3⟩
  have up : ∀ (l : Nat) (ts : List TK), AllW ts → Snd ((S (.lev (l + 1) ts)).bind fun x ks r => S (.lp l x ks r)) := fun l ts h => (lev _ _ h).bind fun x ks r h1 h2 h3 => lp _ _ _ _ h1 h2 h3
  have un : ∀ (op : Int) (ts : List TK), op = 9 ∨ op = 10 → AllW ts → Snd ((spanP ts).bind fun lo hi r => (S (.lev 6 r)).bind fun y js r2 => .ok (nd1 op lo hi) (one y js) r2) := fun op ts ho h =>
    Snd.sbind (span_snd h) fun lo hi r h1 h2 h3 => (lev _ _ h3).bind fun y js r2 h4 h5 h6 =>
      ⟨⟨wrong_nd (by omega) (by omega) (by omega) (by rcases ho with rfl | rfl <;> rfl) (fun h => by omega) (fun _ => ⟨h1, h2⟩), ⟨h4, h5, trivial⟩⟩, h6⟩
  have bi : ∀ (op : Int) (x : Nd) (ks : Tr) (ts : List TK), op = 11 ∨ op = 12 → wrongN x ks.len = 0 → ks.good → AllW ts → Snd ((spanP ts).bind fun lo hi r2 => (S (.lev 5 r2)).bind fun y js r3 => .ok (nd1 op lo hi) (two x ks y js) r3) := fun op x ks ts ho g1 g2 h =>
    Snd.sbind (span_snd h) fun lo hi r h1 h2 h3 => (lev _ _ h3).bind fun y js r2 h4 h5 h6 =>
      ⟨⟨wrong_nd (by omega) (by omega) (by omega) (by rcases ho with rfl | rfl <;> rfl) (fun h => by omega) (fun _ => ⟨h1, h2⟩), ⟨g1, g2, h4, h5, trivial⟩⟩, h6⟩
  intro j hj
  cases j with
  | lp l x ks ts =>
    obtain ⟨⟨h1, h2⟩, h3⟩ := hj
    show Snd (if sgn ts (lsign l) then (S (.lev (l + 1) ts.tail)).bind fun y js r => S (.lp l (nd1 (lop l) 0 0) (two x ks y js) r) else .ok x ks ts)
    have hl := lop_ok l
    cases hq : sgn ts (lsign l)
    · exact ⟨⟨h1, h2⟩, h3⟩
    · rw [if_pos rfl]
      exact (lev _ _ h3.tail).bind fun y js r h4 h5 h6 => lp _ _ _ _ (wrong_nd hl.1 (by omega) hl.2.2.1 hl.2.2.2 (fun _ => ⟨rfl, rfl⟩) (fun h => by omega)) ⟨h1, h2, h4, h5, trivial⟩ h6
  | lev l ts =>
    have h : AllW ts := hj
    by_cases h7 : l = 7
    · subst h7
      show Snd (if sgn ts [40] then (S (.lev 1 ts.tail)).bind fun x ks r => if sgn r [41] then .ok x ks r.tail else .bad 20 r else wordP ts)
      cases hq : sgn ts [40]
      · exact word_snd h
      · rw [if_pos rfl]
        refine (lev _ _ h.tail).bind fun x ks r h1 h2 h3 => ?_
        cases hc : sgn r [41]
        · trivial
        · exact ⟨⟨h1, h2⟩, h3.tail⟩
    by_cases h6 : l = 6
    · subst h6
      show Snd (if sgn ts [33] then (S (.lev 6 ts.tail)).bind fun y js r => .ok (nd1 4 0 0) (one y js) r
        else if sgn ts [70] then (spanP ts.tail).bind fun lo hi r => (S (.lev 6 r)).bind fun y js r2 => .ok (nd1 9 lo hi) (one y js) r2
        else if sgn ts [71] then (spanP ts.tail).bind fun lo hi r => (S (.lev 6 r)).bind fun y js r2 => .ok (nd1 10 lo hi) (one y js) r2
        else S (.lev 7 ts))
      cases q1 : sgn ts [33]
      · cases q2 : sgn ts [70]
        · cases q3 : sgn ts [71]
          · exact lev _ _ h
          · exact un 10 _ (.inr rfl) h.tail
        · exact un 9 _ (.inl rfl) h.tail
      · rw [if_pos rfl]
        exact (lev _ _ h.tail).bind fun y js r h1 h2 h3 => ⟨⟨wrong_nd (by decide) (by decide) (by decide) rfl (fun _ => ⟨rfl, rfl⟩) (fun h => by omega), ⟨h1, h2, trivial⟩⟩, h3⟩
    by_cases h5 : l = 5
    · subst h5
      show Snd ((S (.lev 6 ts)).bind fun x ks r =>
        if sgn r [85] then (spanP r.tail).bind fun lo hi r2 => (S (.lev 5 r2)).bind fun y js r3 => .ok (nd1 11 lo hi) (two x ks y js) r3
        else if sgn r [82] then (spanP r.tail).bind fun lo hi r2 => (S (.lev 5 r2)).bind fun y js r3 => .ok (nd1 12 lo hi) (two x ks y js) r3
        else .ok x ks r)
      refine (lev _ _ h).bind fun x ks r h1 h2 h3 => ?_
      cases q1 : sgn r [85]
      · cases q2 : sgn r [82]
        · exact ⟨⟨h1, h2⟩, h3⟩
        · exact bi 12 _ _ _ (.inr rfl) h1 h2 h3.tail
      · exact bi 11 _ _ _ (.inl rfl) h1 h2 h3.tail
    by_cases h2 : l = 2
    · subst h2
      show Snd ((S (.lev 3 ts)).bind fun x ks r => if sgn r [45, 62] then (S (.lev 2 r.tail)).bind fun y js r2 => .ok (nd1 7 0 0) (two x ks y js) r2 else .ok x ks r)
      refine (lev _ _ h).bind fun x ks r h1 h2 h3 => ?_
      cases q1 : sgn r [45, 62]
      · exact ⟨⟨h1, h2⟩, h3⟩
      · rw [if_pos rfl]
        exact (lev _ _ h3.tail).bind fun y js r2 h4 h5 h6 => ⟨⟨wrong_nd (by decide) (by decide) (by decide) rfl (fun _ => ⟨rfl, rfl⟩) (fun h => by omega), ⟨h1, h2, h4, h5, trivial⟩⟩, h6⟩
    have e : bodyP S (.lev l ts) = (S (.lev (l + 1) ts)).bind fun x ks r => S (.lp l x ks r) := by
      match l, h7, h6, h5, h2 with
      | 0, _, _, _, _ => rfl
      | 1, _, _, _, _ => rfl
      | 3, _, _, _, _ => rfl
      | 4, _, _, _, _ => rfl
      | n + 8, _, _, _, _ => rfl
    rw [e]; exact up l ts h
theorem snd_gP : ∀ n j, Job.snd j → Snd (gP n j)
  | 0, _, _ => trivial
  | n + 1, j, hj => snd_body (snd_gP n) j hj
theorem toks_w {l : List UInt8} (h : (readT l).1.1 = 0) (k : Nat) : AllW (remT (readT l).2 k) := by
  intro t ht
  obtain ⟨us, p, e, hg⟩ := (readT_tl h).ends
  obtain ⟨x, hx, rfl⟩ := List.mem_map.1 ht
  have hx := List.mem_of_mem_drop hx
  rw [e] at hx
  rcases List.mem_append.1 hx with h1 | h1
  · exact (hg x h1).word
  · simp only [List.mem_singleton] at h1
    subst h1
    intro e
    simp [tk0] at e
/-- A parsed formula is refused for its size or its depth alone. -/
theorem read_sound {l : List UInt8} (h : (readT l).1.1 = 0) {x : Nd} {ks : Tr} {r : List TK} (hr : Reads (.lev 1 (remT (readT l).2 0)) (.ok x ks r)) : checkT x ks = 0 ∨ checkT x ks = 22 ∨ checkT x ks = 23 := by
  obtain ⟨_, N, hN⟩ := hr
  have hs := snd_gP N (.lev 1 (remT (readT l).2 0)) (toks_w h 0)
  rw [hN N (Nat.le_refl _)] at hs
  have h0 := (good_first x ks).2 hs.1
  unfold checkT
  rw [h0]
  by_cases h1 : 48 < ks.size + 1
  · rw [if_pos h1]; simp
  · rw [if_neg h1]
    by_cases h2 : 12 < ks.deep + 1
    · rw [if_pos h2]; simp
    · rw [if_neg h2]; simp
end Go.Proofs.YtanhmigknafhkaaDoor
namespace Go.Proofs.YtanhmigknafhkaaDoor
open Go.RowKit

/-- The tokens' texts, a blank behind each. -/
def blT (b : UInt8) (o : List (TK × Nat)) : List UInt8 := o.flatMap fun x => x.1.text ++ [b]
/-- The tokens with their new places. -/
def blP (at_ : Nat) : List (TK × Nat) → List (TK × Nat)
  | [] => []
  | x :: o => (x.1, at_) :: blP (at_ + x.1.text.length + 1) o
theorem blP_fst : ∀ (o : List (TK × Nat)) (a : Nat), (blP a o).map (·.1) = o.map (·.1)
  | [], _ => rfl
  | x :: o, a => by simp [blP, blP_fst o]
theorem blP_len : ∀ (o : List (TK × Nat)) (a : Nat), (blP a o).length = o.length
  | [], _ => rfl
  | x :: o, a => by simp [blP, blP_len o]
theorem blT_cons (b : UInt8) (x : TK × Nat) (o : List (TK × Nat)) : blT b (x :: o) = x.1.text ++ b :: blT b o := by simp [blT]
theorem rd_bl {b : UInt8} (hb : blankB b = true) : ∀ (o : List (TK × Nat)) (a : Nat), (∀ x ∈ o, nextT x.1.text = (0, x.1)) → rdT a (blT b o) = ((0, 0), blP a o ++ [(tk0, a + (blT b o).length)])
  | [], a, _ => by simp [blT, blP, rdT_nil]
  | x :: o, a, h => by
    have hx := h x (by simp)
    have hne : x.1.text ≠ [] := by
      intro e
      rw [e] at hx; simp [nextT] at hx
    obtain ⟨c, s, hc⟩ : ∃ c s, x.1.text = c :: s := by
      cases hs : x.1.text with
      | nil => exact absurd hs hne
      | cons c s => exact ⟨c, s, rfl⟩
    have hcb : blankB c = false := by
      cases hcb : blankB c
      · rfl
      · rw [hc] at hx
        exact absurd (by rw [hx]) (nextT_blank (r := s) hcb)
    have hn : nextT (x.1.text ++ b :: blT b o) = (0, x.1) := by rw [nextT_sep _ hb hne]; exact hx
    rw [blT_cons, rdT_cons hc hcb hn, rdT_blank hb, rd_bl hb o _ (fun y hy => h y (by simp [hy]))]
    simp only [blP, List.cons_append, List.length_append, List.length_cons]
    have e : a + x.1.text.length + 1 + (blT b o).length = a + (x.1.text.length + ((blT b o).length + 1)) := by omega
    rw [e]
theorem rdT_self (n : Nat) : ∀ (a : Nat) (l : List UInt8), l.length ≤ n → (rdT a l).1.1 = 0 → ∃ o, (rdT a l).2 = o ++ [(tk0, a + l.length)] ∧ ∀ x ∈ o, nextT x.1.text = (0, x.1) := by
  induction n with
  | zero =>
    intro a l hl _
    have : l = [] := List.eq_nil_of_length_eq_zero (by omega)
    subst this
    exact ⟨[], by simp [rdT_nil], by simp⟩
  | succ n ih =>
    intro a l hl h
    cases l with
    | nil => exact ⟨[], by simp [rdT_nil], by simp⟩
    | cons c r =>
      simp only [List.length_cons] at hl
      cases hb : blankB c
      · by_cases h0 : (nextT (c :: r)).1 = 0
        · rw [rdT_tok hb h0] at h ⊢
          have ht := next_text h0
          obtain ⟨o, h1, h2⟩ := ih _ _ (by simp; omega) h
          have hs := nextT_self (l := c :: r) (T := (nextT (c :: r)).2) (Prod.ext h0 rfl)
          refine ⟨((nextT (c :: r)).2, a) :: o, ?_, ?_⟩
          · simp only [h1, List.cons_append, List.length_drop]
            congr 2
            simp only [List.length_cons] at ht ⊢
            congr 2
            omega
          · intro x hx
            rcases List.mem_cons.1 hx with rfl | hx
            · exact hs.1
            · exact h2 x hx
        · rw [rdT_err hb h0] at h; exact absurd h h0
      · rw [rdT_blank hb] at h ⊢
        obtain ⟨o, h1, h2⟩ := ih _ _ (by omega) h
        refine ⟨o, ?_, h2⟩
        rw [h1, List.length_cons]
        congr 3
        omega
/-- What a text and the same with blanks have. -/
structure Bl (l t : List UInt8) (o : List (TK × Nat)) : Prop where
  rd : readT l = ((0, 0), o ++ [(tk0, l.length)])
  rd2 : readT t = ((0, 0), blP 1 o ++ [(tk0, t.length)])
theorem bl_of {b : UInt8} (hb : blankB b = true) {l : List UInt8} (h : (readT l).1.1 = 0) : ∃ o, (readT l).2 = o ++ [(tk0, l.length)] ∧ ((b :: blT b o).length ≤ 512 → Bl l (b :: blT b o) o) := by
  have h1 := readT_ok h
  obtain ⟨o, h2, h3⟩ := rdT_self _ 0 l (Nat.le_refl _) (by rw [h1.2.1])
  rw [h1.2.1, Nat.zero_add] at h2
  simp only at h2
  refine ⟨o, h2, fun hl => ⟨?_, ?_⟩⟩
  · exact readT_of h1.2.2.2 (by rw [h1.2.1, h2])
  · refine readT_of hl ?_
    rw [rdT_blank hb, Nat.zero_add, rd_bl hb o 1 h3, List.length_cons, Nat.add_comm 1]
/-- What comes of the one comes of the other, at the same token. -/
theorem bl_parse {l t : List UInt8} {o : List (TK × Nat)} (h : Bl l t o) {q : PQ} (hq : ParseIs l q) : (∃ x ks, q = .good x ks ∧ ParseIs t (.good x ks)) ∨ (∃ e, (e = 22 ∨ e = 23) ∧ q = .bad e 0 ∧ ParseIs t (.bad e 0)) ∨
    ∃ e k, ∃ h1 : k < (readT l).2.length, ∃ h2 : k < (readT t).2.length, (e = 20 ∨ e = 24) ∧ q = .bad e (readT l).2[k].2 ∧ ParseIs t (.bad e (readT t).2[k].2) := by
  have e1 : (readT l).1.1 = 0 := by rw [h.rd]
  have e2 : (readT t).1.1 = 0 := by rw [h.rd2]
  have hlen : (readT t).2.length = (readT l).2.length := by rw [h.rd, h.rd2]; simp [blP_len]
  have hm : ∀ k, remT (readT t).2 k = remT (readT l).2 k := by
    intro k
    unfold remT
    rw [List.map_drop, List.map_drop, h.rd, h.rd2]
    simp [blP_fst]
  have hk1 : ∀ k (h1 : k < (readT l).2.length) (h2 : k < (readT t).2.length), (readT t).2[k].1 = (readT l).2[k].1 := by
    intro k h1 h2
    have a := remT_hd h1
    have b := remT_hd h2
    rw [hm k, a] at b; exact b.symm
  cases hq with
  | lex h => exact absurd e1 h
  | @wrong e k _ hk hr =>
    have h2 : k < (readT t).2.length := by omega
    have he := (reads_left hr (remT_ok (readT_toks e1) 0)).2
    rw [← hm, ← hm] at hr
    exact .inr (.inr ⟨e, k, hk, h2, he, rfl, .wrong e2 h2 hr⟩)
  | @more x ks k _ hk hr h0 =>
    have h2 : k < (readT t).2.length := by omega
    rw [← hm, ← hm] at hr
    exact .inr (.inr ⟨20, k, hk, h2, .inl rfl, rfl, .more e2 h2 hr (by rw [hk1 k hk h2]; exact h0)⟩)
  | @big x ks k _ hk hr h0 hc =>
    have h2 : k < (readT t).2.length := by omega
    have hs := read_sound e1 hr
    rw [← hm, ← hm] at hr
    exact .inr (.inl ⟨checkT x ks, by omega, rfl, .big e2 h2 hr (by rw [hk1 k hk h2]; exact h0) hc⟩)
  | @good x ks k _ hk hr h0 hc =>
    have h2 : k < (readT t).2.length := by omega
    rw [← hm, ← hm] at hr
    exact .inl ⟨x, ks, rfl, .good e2 h2 hr (by rw [hk1 k hk h2]; exact h0) hc⟩
end Go.Proofs.YtanhmigknafhkaaDoor
