/- The grammar in plain words: what a row of tokens is read as. No program in sight. -/
import Derived.Test.YtfebkjoohnlifaaDoorFwrong
import Derived.Test.YtfebkjoohnlifaaDoorTplain
namespace Go.Proofs.YtfebkjoohnlifaaDoor

def tend : TK := ⟨0, [], 0⟩
def hd (ts : List TK) : TK := ts.headD tend
/-- Is the next token that sign? -/
def sgn (ts : List TK) (s : List UInt8) : Bool := (hd ts).kind == 3 && (hd ts).text == s
/-- What comes of reading: a formula and the tokens behind it; or what is wrong, and the tokens from there on. -/
inductive PR where
  | ok (x : Nd) (ks : Tr) (rest : List TK)
  | bad (e : Int) (rest : List TK)
  | out
inductive SR where
  | ok (lo hi : Int) (rest : List TK)
  | bad (e : Int) (rest : List TK)
def nd1 (op lo hi : Int) : Nd := ⟨op, ⟨#[]⟩, 0, 0, lo, hi⟩
def one (y : Nd) (js : Tr) : Tr := .cons y js .nil
def two (x : Nd) (ks : Tr) (y : Nd) (js : Tr) : Tr := .cons x ks (.cons y js .nil)
/-- A span. -/
def spanP (ts : List TK) : SR :=
  if sgn ts [91] = false then .bad 20 ts
  else if ¬ (hd ts.tail).kind = 2 ∨ (hd ts.tail).num < 0 then .bad 20 ts.tail
  else if sgn ts.tail.tail [44] = false then .bad 20 ts.tail.tail
  else if ¬ (hd ts.tail.tail.tail).kind = 2 ∨ (hd ts.tail.tail.tail).num < 0 then .bad 20 ts.tail.tail.tail
  else if (hd ts.tail.tail.tail).num < (hd ts.tail).num then .bad 24 ts.tail.tail.tail
  else if sgn ts.tail.tail.tail.tail [93] = false then .bad 20 ts.tail.tail.tail.tail
  else .ok (hd ts.tail).num (hd ts.tail.tail.tail).num ts.tail.tail.tail.tail.tail
def cmpOf (t : TK) : Int :=
  if t.kind = 3 then (if t.text = [61] then 1 else if t.text = [33, 61] then 2 else if t.text = [60] then 3 else if t.text = [60, 61] then 4 else if t.text = [62] then 5 else if t.text = [62, 61] then 6 else 0) else 0
def trueW : List UInt8 := [116, 114, 117, 101]
def falseW : List UInt8 := [102, 97, 108, 115, 101]
/-- An atom, or a constant. -/
def wordP (ts : List TK) : PR :=
  if ¬ (hd ts).kind = 1 then .bad 20 ts
  else if (hd ts).text = trueW then .ok (nd1 1 0 0) .nil ts.tail
  else if (hd ts).text = falseW then .ok (nd1 2 0 0) .nil ts.tail
  else if cmpOf (hd ts.tail) = 0 then .ok ⟨3, ⟨(hd ts).text.toArray⟩, 0, 0, 0, 0⟩ .nil ts.tail
  else if ¬ (hd ts.tail.tail).kind = 2 then .bad 20 ts.tail.tail
  else .ok ⟨3, ⟨(hd ts).text.toArray⟩, cmpOf (hd ts.tail), (hd ts.tail.tail).num, 0, 0⟩ .nil ts.tail.tail.tail
/-- What is to be read: a level of the grammar (1 iff, 2 imp, 3 or, 4 and, 5 until, 6 unary, 7 atom), or what a level goes on with. -/
inductive Job where
  | lev (l : Nat) (ts : List TK)
  | lp (l : Nat) (x : Nd) (ks : Tr) (ts : List TK)
def lsign (l : Nat) : List UInt8 := if l = 1 then [60, 45, 62] else if l = 3 then [124] else [38]
def lop (l : Nat) : Int := if l = 1 then 8 else if l = 3 then 6 else 5
def PR.bind (r : PR) (f : Nd → Tr → List TK → PR) : PR := match r with
  | .ok x ks rest => f x ks rest
  | .bad e rest => .bad e rest
  | .out => .out
def SR.bind (r : SR) (f : Int → Int → List TK → PR) : PR := match r with
  | .ok lo hi rest => f lo hi rest
  | .bad e rest => .bad e rest
def bodyP (S : Job → PR) : Job → PR
  | .lp l x ks ts => if sgn ts (lsign l) then (S (.lev (l + 1) ts.tail)).bind fun y js r => S (.lp l (nd1 (lop l) 0 0) (two x ks y js) r) else .ok x ks ts
  | .lev 7 ts => if sgn ts [40] then (S (.lev 1 ts.tail)).bind fun x ks r => if sgn r [41] then .ok x ks r.tail else .bad 20 r else wordP ts
  | .lev 6 ts =>
    if sgn ts [33] then (S (.lev 6 ts.tail)).bind fun y js r => .ok (nd1 4 0 0) (one y js) r
    else if sgn ts [70] then (spanP ts.tail).bind fun lo hi r => (S (.lev 6 r)).bind fun y js r2 => .ok (nd1 9 lo hi) (one y js) r2
    else if sgn ts [71] then (spanP ts.tail).bind fun lo hi r => (S (.lev 6 r)).bind fun y js r2 => .ok (nd1 10 lo hi) (one y js) r2
    else S (.lev 7 ts)
  | .lev 5 ts => (S (.lev 6 ts)).bind fun x ks r =>
    if sgn r [85] then (spanP r.tail).bind fun lo hi r2 => (S (.lev 5 r2)).bind fun y js r3 => .ok (nd1 11 lo hi) (two x ks y js) r3
    else if sgn r [82] then (spanP r.tail).bind fun lo hi r2 => (S (.lev 5 r2)).bind fun y js r3 => .ok (nd1 12 lo hi) (two x ks y js) r3
    else .ok x ks r
  | .lev 2 ts => (S (.lev 3 ts)).bind fun x ks r => if sgn r [45, 62] then (S (.lev 2 r.tail)).bind fun y js r2 => .ok (nd1 7 0 0) (two x ks y js) r2 else .ok x ks r
  | .lev l ts => (S (.lev (l + 1) ts)).bind fun x ks r => S (.lp l x ks r)
/-- The reading, with so much fuel. -/
def gP : Nat → Job → PR
  | 0 => fun _ => .out
  | n + 1 => bodyP (gP n)
/-- R's answers are S's, where there are any. -/
def Leq (R S : Job → PR) : Prop := ∀ j, ¬ R j = .out → S j = R j
theorem bind_leq {a b : PR} {f g : Nd → Tr → List TK → PR} (h : ¬ a = .out → b = a) (hf : ∀ x ks r, ¬ f x ks r = .out → g x ks r = f x ks r) : ¬ a.bind f = .out → b.bind g = a.bind f := by
  intro hne
  cases a with
  | out => exact absurd rfl hne
  | bad e r => rw [h (by simp)]; rfl
  | ok x ks r => rw [h (by simp)]; exact hf x ks r hne
theorem sbind_leq {a : SR} {f g : Int → Int → List TK → PR} (hf : ∀ lo hi r, ¬ f lo hi r = .out → g lo hi r = f lo hi r) : ¬ a.bind f = .out → a.bind g = a.bind f := by
  intro hne
  cases a with
  | bad e r => rfl
  | ok lo hi r => exact hf lo hi r hne
theorem if_leq {c : Bool} {a b a' b' : PR} (h1 : ¬ a = .out → a' = a) (h2 : ¬ b = .out → b' = b) : ¬ (if c then a else b) = .out → (if c then a' else b') = (if c then a else b) := by
  cases c
  · simpa using h2
  · simpa using h1
theorem body_leq {R S : Job → PR} (h : Leq R S) : Leq (bodyP R) (bodyP S) := by
  intro j
  unfold bodyP
  split
  · exact if_leq (bind_leq (h _) fun x ks r => h _) (fun _ => rfl)
  · exact if_leq (bind_leq (h _) fun x ks r _ => rfl) (fun _ => rfl)
  · exact if_leq (bind_leq (h _) fun _ _ _ _ => rfl) (if_leq (sbind_leq fun _ _ _ => bind_leq (h _) fun _ _ _ _ => rfl) (if_leq (sbind_leq fun _ _ _ => bind_leq (h _) fun _ _ _ _ => rfl) (h _)))
  · exact bind_leq (h _) fun _ _ _ => if_leq (sbind_leq fun _ _ _ => bind_leq (h _) fun _ _ _ _ => rfl) (if_leq (sbind_leq fun _ _ _ => bind_leq (h _) fun _ _ _ _ => rfl) (fun _ => rfl))
  · exact bind_leq (h _) fun _ _ _ => if_leq (bind_leq (h _) fun _ _ _ _ => rfl) (fun _ => rfl)
  · exact bind_leq (h _) fun _ _ _ => h _
theorem gP_leq : ∀ n, Leq (gP n) (gP (n + 1))
  | 0 => fun _ h => absurd rfl h
  | n + 1 => body_leq (gP_leq n)
theorem gP_le {n m : Nat} (h : n ≤ m) : Leq (gP n) (gP m) := by
  induction m with
  | zero => have : n = 0 := by omega
            subst this; exact fun _ _ => rfl
  | succ m ih =>
    rcases Nat.lt_or_ge n (m + 1) with hlt | hge
    · intro j hj
      have h1 := ih (by omega) j hj
      rw [gP_leq m j (by rw [h1]; exact hj), h1]
    · have : n = m + 1 := by omega
      subst this; exact fun _ _ => rfl
/-- The job is read as r. -/
def Reads (j : Job) (r : PR) : Prop := ¬ r = .out ∧ ∃ N, ∀ n, N ≤ n → gP n j = r
theorem Reads.uniq {j : Job} {r s : PR} (h : Reads j r) (k : Reads j s) : r = s := by
  obtain ⟨_, N, hN⟩ := h
  obtain ⟨_, M, hM⟩ := k
  rw [← hN (max N M) (by omega), ← hM (max N M) (by omega)]
theorem Reads.of_fuel {j : Job} {n : Nat} (h : ¬ gP n j = .out) : Reads j (gP n j) := ⟨h, n, fun _ hm => gP_le hm j h⟩
theorem Reads.step {j : Job} {r : PR} (hr : ¬ r = .out) (h : ∃ N, ∀ n, N ≤ n → bodyP (gP n) j = r) : Reads j r := by
  obtain ⟨N, hN⟩ := h
  exact ⟨hr, N + 1, fun n hn => by
    obtain ⟨m, rfl⟩ : ∃ m, n = m + 1 := ⟨n - 1, by omega⟩
    exact hN m (by omega)⟩
end Go.Proofs.YtfebkjoohnlifaaDoor
