/- Every row of tokens is read as something; what is left of it; how great what is read is. No program in sight. -/
import Derived.Test.YtfebkjoohnlifaaDoorPplain
import Derived.Test.YtfebkjoohnlifaaDoorFtxt
namespace Go.Proofs.YtfebkjoohnlifaaDoor

/-- a is what is left of b when some tokens have been taken, none of them the end. -/
inductive Sfx : List TK → List TK → Prop
  | refl (ts : List TK) : Sfx ts ts
  | step {ts r : List TK} : ¬ (hd ts).kind = 0 → Sfx r ts.tail → Sfx r ts
theorem Sfx.trans {a b c : List TK} (h : Sfx a b) (k : Sfx b c) : Sfx a c := by
  induction k with
  | refl => exact h
  | step h1 _ ih => exact .step h1 (ih h)
theorem hd_ne {ts : List TK} (h : ¬ (hd ts).kind = 0) : ts.tail.length + 1 = ts.length := by
  cases ts with
  | nil => exact absurd rfl h
  | cons t r => rfl
theorem Sfx.one {ts : List TK} (h : ¬ (hd ts).kind = 0) : Sfx ts.tail ts := .step h (.refl _)
theorem Sfx.le {a b : List TK} (h : Sfx a b) : a.length ≤ b.length := by
  induction h with
  | refl => exact Nat.le_refl _
  | step h1 _ ih => have := hd_ne h1; omega
theorem Sfx.mem {a b : List TK} (h : Sfx a b) : ∀ t ∈ a, t ∈ b := by
  induction h with
  | refl => exact fun _ h => h
  | step h1 _ ih => exact fun t ht => List.mem_of_mem_tail (ih t ht)
theorem sgn_kind {ts : List TK} {s : List UInt8} (h : sgn ts s = true) : ¬ (hd ts).kind = 0 := by
  unfold sgn at h
  simp only [Bool.and_eq_true, beq_iff_eq] at h
  omega
/-- A token whose parts fit. -/
structure TOk (t : TK) : Prop where
  text : t.text.length ≤ 512
  num : I64 t.num
theorem hd_ok {ts : List TK} (h : ∀ t ∈ ts, TOk t) : TOk (hd ts) := by
  cases ts with
  | nil => exact ⟨by decide, by unfold I64; decide⟩
  | cons t r => exact h t (by simp)
theorem tail_ok {ts : List TK} (h : ∀ t ∈ ts, TOk t) : ∀ t ∈ ts.tail, TOk t := fun t ht => h t (List.mem_of_mem_tail ht)
/-- All names are short. -/
def Tr.nm512 : Tr → Prop
  | .nil => True
  | .cons x k r => x.name.size ≤ 512 ∧ k.nm512 ∧ r.nm512
/-- What is read fits: its names, its numbers, its size. -/
structure Fit (x : Nd) (ks : Tr) : Prop where
  nd : NdOk x
  ok : ks.ok
  name : x.name.size ≤ 512
  names : ks.nm512
def Lft (m : Nat) (ts : List TK) : PR → Prop
  | .ok x ks r => Sfx r ts ∧ ks.size + 1 + r.length ≤ m ∧ Fit x ks
  | .bad e r => Sfx r ts ∧ (e = 20 ∨ e = 24)
  | .out => True
def SLft (ts : List TK) : SR → Prop
  | .ok lo hi r => Sfx r ts ∧ r.length + 1 ≤ ts.length ∧ I64 lo ∧ I64 hi
  | .bad e r => Sfx r ts ∧ (e = 20 ∨ e = 24)
theorem Lft.bind {m m' : Nat} {ts : List TK} {a : PR} {f : Nd → Tr → List TK → PR} (h : Lft m ts a) (hf : ∀ x ks r, a = .ok x ks r → Sfx r ts → ks.size + 1 + r.length ≤ m → Fit x ks → Lft m' r (f x ks r)) : Lft m' ts (a.bind f) := by
  cases a with
  | out => trivial
  | bad e r => exact h
  | ok x ks r =>
    obtain ⟨h1, h2, h3⟩ := h
    have h4 := hf x ks r rfl h1 h2 h3
    show Lft m' ts (f x ks r)
    cases hq : f x ks r with
    | out => trivial
    | bad e r' => rw [hq] at h4; exact ⟨h4.1.trans h1, h4.2⟩
    | ok y js r' => rw [hq] at h4; exact ⟨h4.1.trans h1, h4.2⟩
theorem Lft.sbind {m : Nat} {ts : List TK} {a : SR} {f : Int → Int → List TK → PR} (h : SLft ts a) (hf : ∀ lo hi r, a = .ok lo hi r → r.length + 1 ≤ ts.length → I64 lo → I64 hi → (∀ t ∈ r, t ∈ ts) → Lft m r (f lo hi r)) : Lft m ts (a.bind f) := by
  cases a with
  | bad e r => exact h
  | ok lo hi r =>
    obtain ⟨h1, h2, h3, h5⟩ := h
    have h4 := hf lo hi r rfl h2 h3 h5 h1.mem
    show Lft m ts (f lo hi r)
    cases hq : f lo hi r with
    | out => trivial
    | bad e r' => rw [hq] at h4; exact ⟨h4.1.trans h1, h4.2⟩
    | ok y js r' => rw [hq] at h4; exact ⟨h4.1.trans h1, h4.2⟩
theorem Lft.tail {m : Nat} {ts : List TK} {q : PR} (hk : ¬ (hd ts).kind = 0) (h : Lft m ts.tail q) : Lft m ts q := by
  cases q with
  | out => trivial
  | bad e r => exact ⟨h.1.trans (.one hk), h.2⟩
  | ok x ks r => exact ⟨h.1.trans (.one hk), h.2⟩
theorem Lft.mono {m m' : Nat} {ts : List TK} {q : PR} (h : Lft m ts q) (hm : m ≤ m') : Lft m' ts q := by
  cases q with
  | out => trivial
  | bad e r => exact h
  | ok x ks r => exact ⟨h.1, Nat.le_trans h.2.1 hm, h.2.2⟩
theorem i64_small {n : Int} (h0 : -100 ≤ n) (h1 : n ≤ 100) : I64 n := by unfold I64; omega
theorem i64_0 : I64 0 := i64_small (by decide) (by decide)
theorem i64_3 : I64 3 := i64_small (by decide) (by decide)
theorem nd1_ok {op lo hi : Int} (h0 : -100 ≤ op) (h1 : op ≤ 100) (h2 : I64 lo) (h3 : I64 hi) : NdOk (nd1 op lo hi) := ⟨i64_small h0 h1, i64_0, i64_0, h2, h3⟩
theorem fit_one {op lo hi : Int} (h0 : -100 ≤ op) (h1 : op ≤ 100) (h2 : I64 lo) (h3 : I64 hi) {y : Nd} {js : Tr} (h : Fit y js) : Fit (nd1 op lo hi) (one y js) :=
  ⟨nd1_ok h0 h1 h2 h3, ⟨h.nd, h.ok, trivial⟩, by simp [nd1, ByteArray.size], ⟨h.name, h.names, trivial⟩⟩
theorem fit_two {op lo hi : Int} (h0 : -100 ≤ op) (h1 : op ≤ 100) (h2 : I64 lo) (h3 : I64 hi) {x y : Nd} {ks js : Tr} (k : Fit x ks) (h : Fit y js) : Fit (nd1 op lo hi) (two x ks y js) :=
  ⟨nd1_ok h0 h1 h2 h3, ⟨k.nd, k.ok, h.nd, h.ok, trivial⟩, by simp [nd1, ByteArray.size], ⟨k.name, k.names, h.name, h.names, trivial⟩⟩
theorem one_size (y : Nd) (js : Tr) : (one y js).size = js.size + 1 := by simp [one, Tr.size]
theorem two_size (x : Nd) (ks : Tr) (y : Nd) (js : Tr) : (two x ks y js).size = ks.size + 1 + (js.size + 1) := by simp [two, Tr.size]
theorem span_left (ts : List TK) (h : ∀ t ∈ ts, TOk t) : SLft ts (spanP ts) := by
  unfold spanP
  by_cases h1 : sgn ts [91] = false
  · rw [if_pos h1]; exact ⟨.refl _, .inl rfl⟩
  rw [if_neg h1]
  have k1 := sgn_kind (by simpa using h1 : sgn ts [91] = true)
  have s1 := Sfx.one k1
  by_cases h2 : ¬ (hd ts.tail).kind = 2 ∨ (hd ts.tail).num < 0
  · rw [if_pos h2]; exact ⟨s1, .inl rfl⟩
  rw [if_neg h2]
  have k2 : ¬ (hd ts.tail).kind = 0 := by omega
  have s2 := (Sfx.one k2).trans s1
  by_cases h3 : sgn ts.tail.tail [44] = false
  · rw [if_pos h3]; exact ⟨s2, .inl rfl⟩
  rw [if_neg h3]
  have k3 := sgn_kind (by simpa using h3 : sgn ts.tail.tail [44] = true)
  have s3 := (Sfx.one k3).trans s2
  by_cases h4 : ¬ (hd ts.tail.tail.tail).kind = 2 ∨ (hd ts.tail.tail.tail).num < 0
  · rw [if_pos h4]; exact ⟨s3, .inl rfl⟩
  rw [if_neg h4]
  have k4 : ¬ (hd ts.tail.tail.tail).kind = 0 := by omega
  have s4 := (Sfx.one k4).trans s3
  by_cases h5 : (hd ts.tail.tail.tail).num < (hd ts.tail).num
  · rw [if_pos h5]; exact ⟨s3, .inr rfl⟩
  rw [if_neg h5]
  by_cases h6 : sgn ts.tail.tail.tail.tail [93] = false
  · rw [if_pos h6]; exact ⟨s4, .inl rfl⟩
  rw [if_neg h6]
  have k6 := sgn_kind (by simpa using h6 : sgn ts.tail.tail.tail.tail [93] = true)
  have l1 := hd_ne k1
  have l2 := s4.le
  have l3 := hd_ne k6
  exact ⟨(Sfx.one k6).trans s4, by omega, (hd_ok (tail_ok h)).num, (hd_ok (tail_ok (tail_ok (tail_ok h)))).num⟩
theorem word_left (ts : List TK) (h : ∀ t ∈ ts, TOk t) : Lft ts.length ts (wordP ts) := by
  unfold wordP
  by_cases h1 : ¬ (hd ts).kind = 1
  · rw [if_pos h1]; exact ⟨.refl _, .inl rfl⟩
  rw [if_neg h1]
  have k1 : ¬ (hd ts).kind = 0 := by omega
  have s1 := Sfx.one k1
  have l1 := hd_ne k1
  have t1 := (hd_ok h).text
  by_cases h2 : (hd ts).text = trueW
  · rw [if_pos h2]; exact ⟨s1, by simp [Tr.size]; omega, ⟨nd1_ok (by decide) (by decide) i64_0 i64_0, trivial, by simp [nd1, ByteArray.size], trivial⟩⟩
  rw [if_neg h2]
  by_cases h3 : (hd ts).text = falseW
  · rw [if_pos h3]; exact ⟨s1, by simp [Tr.size]; omega, ⟨nd1_ok (by decide) (by decide) i64_0 i64_0, trivial, by simp [nd1, ByteArray.size], trivial⟩⟩
  rw [if_neg h3]
  by_cases h4 : cmpOf (hd ts.tail) = 0
  · rw [if_pos h4]; exact ⟨s1, by simp [Tr.size]; omega, ⟨⟨i64_3, i64_0, i64_0, i64_0, i64_0⟩, trivial, by simpa [ByteArray.size] using t1, trivial⟩⟩
  rw [if_neg h4]
  have k2 : ¬ (hd ts.tail).kind = 0 := by
    intro e
    apply h4
    unfold cmpOf
    rw [if_neg (by omega)]
  have s2 := (Sfx.one k2).trans s1
  by_cases h5 : ¬ (hd ts.tail.tail).kind = 2
  · rw [if_pos h5]; exact ⟨s2, .inl rfl⟩
  rw [if_neg h5]
  have k3 : ¬ (hd ts.tail.tail).kind = 0 := by omega
  have l2 := hd_ne k2
  have l3 := hd_ne k3
  have hc : -100 ≤ cmpOf (hd ts.tail) ∧ cmpOf (hd ts.tail) ≤ 100 := by unfold cmpOf; (repeat' split) <;> decide
  exact ⟨(Sfx.one k3).trans s2, by simp [Tr.size]; omega, ⟨⟨i64_3, i64_small hc.1 hc.2, (hd_ok (tail_ok (tail_ok h))).num, i64_0, i64_0⟩, trivial, by simpa [ByteArray.size] using t1, trivial⟩⟩
/-- The bound of a job. -/
def Job.m : Job → Nat
  | .lev _ ts => ts.length
  | .lp _ _ ks ts => ks.size + 1 + ts.length
def Job.ts : Job → List TK
  | .lev _ ts => ts
  | .lp _ _ _ ts => ts
def Job.ok : Job → Prop
  | .lev _ ts => ∀ t ∈ ts, TOk t
  | .lp _ x ks ts => (∀ t ∈ ts, TOk t) ∧ Fit x ks
theorem lop_small (l : Nat) : -100 ≤ lop l ∧ lop l ≤ 100 := by unfold lop; (repeat' split) <;> decide
theorem body_left {S : Job → PR} (hS : ∀ j, j.ok → Lft j.m j.ts (S j)) : ∀ j, j.ok → Lft j.m j.ts (bodyP S j) := by
  intro j hj
  unfold bodyP
  split
  · rename_i l x ks ts
    obtain ⟨hj, hfit⟩ := hj
    by_cases h : sgn ts (lsign l) = true
    · rw [if_pos h]
      have k := sgn_kind h
      have lk := hd_ne k
      refine Lft.tail k (Lft.bind (hS (.lev (l + 1) ts.tail) (tail_ok hj)) fun y js r _ hs hl hf => ?_)
      refine (hS (.lp l (nd1 (lop l) 0 0) (two x ks y js) r) ⟨fun t ht => tail_ok hj t (hs.mem t ht), fit_two (lop_small l).1 (lop_small l).2 i64_0 i64_0 hfit hf⟩).mono ?_
      simp only [Job.m, two_size] at hl ⊢
      omega
    · rw [if_neg h]; exact ⟨.refl _, Nat.le_refl _, hfit⟩
  · rename_i ts
    by_cases h : sgn ts [40] = true
    · rw [if_pos h]
      have k := sgn_kind h
      have lk := hd_ne k
      refine Lft.tail k (Lft.bind (hS (.lev 1 ts.tail) (tail_ok hj)) fun x ks r _ hs hl hf => ?_)
      by_cases h2 : sgn r [41] = true
      · rw [if_pos h2]
        have k2 := hd_ne (sgn_kind h2)
        exact ⟨.one (sgn_kind h2), by simp only [Job.m] at hl ⊢; omega, hf⟩
      · rw [if_neg h2]; exact ⟨.refl _, .inl rfl⟩
    · rw [if_neg h]; exact word_left ts hj
  · rename_i ts
    by_cases h : sgn ts [33] = true
    · rw [if_pos h]
      have k := sgn_kind h
      have lk := hd_ne k
      refine Lft.tail k (Lft.bind (hS (.lev 6 ts.tail) (tail_ok hj)) fun x ks r _ hs hl hf => ⟨.refl _, by simp only [Job.m, one_size] at hl ⊢; omega, fit_one (by decide) (by decide) i64_0 i64_0 hf⟩)
    rw [if_neg h]
    by_cases h2 : sgn ts [70] = true
    · rw [if_pos h2]
      have k := sgn_kind h2
      have lk := hd_ne k
      refine Lft.tail k (Lft.sbind (span_left _ (tail_ok hj)) fun lo hi r _ hl i1 i2 hm => ?_)
      exact Lft.bind (hS (.lev 6 r) (fun t ht => tail_ok hj t (hm t ht))) fun x ks r _ hs hl2 hf => ⟨.refl _, by simp only [Job.m, Job.ts, one_size] at hl hl2 ⊢; omega, fit_one (by decide) (by decide) i1 i2 hf⟩
    rw [if_neg h2]
    by_cases h3 : sgn ts [71] = true
    · rw [if_pos h3]
      have k := sgn_kind h3
      have lk := hd_ne k
      refine Lft.tail k (Lft.sbind (span_left _ (tail_ok hj)) fun lo hi r _ hl i1 i2 hm => ?_)
      exact Lft.bind (hS (.lev 6 r) (fun t ht => tail_ok hj t (hm t ht))) fun x ks r _ hs hl2 hf => ⟨.refl _, by simp only [Job.m, Job.ts, one_size] at hl hl2 ⊢; omega, fit_one (by decide) (by decide) i1 i2 hf⟩
    rw [if_neg h3]
    exact hS (.lev 7 ts) hj
  · rename_i ts
    refine Lft.bind (hS (.lev 6 ts) hj) fun x ks r _ hs hl hf => ?_
    have hr : ∀ t ∈ r, TOk t := fun t ht => hj t (hs.mem t ht)
    by_cases h : sgn r [85] = true
    · rw [if_pos h]
      have k := sgn_kind h
      have lk := hd_ne k
      refine Lft.tail k (Lft.sbind (span_left _ (tail_ok hr)) fun lo hi r2 _ hl2 i1 i2 hm => ?_)
      exact Lft.bind (hS (.lev 5 r2) (fun t ht => tail_ok hr t (hm t ht))) fun y js r3 _ hs3 hl3 hf3 => ⟨.refl _, by simp only [Job.m, two_size] at hl hl3 ⊢; omega, fit_two (by decide) (by decide) i1 i2 hf hf3⟩
    rw [if_neg h]
    by_cases h2 : sgn r [82] = true
    · rw [if_pos h2]
      have k := sgn_kind h2
      have lk := hd_ne k
      refine Lft.tail k (Lft.sbind (span_left _ (tail_ok hr)) fun lo hi r2 _ hl2 i1 i2 hm => ?_)
      exact Lft.bind (hS (.lev 5 r2) (fun t ht => tail_ok hr t (hm t ht))) fun y js r3 _ hs3 hl3 hf3 => ⟨.refl _, by simp only [Job.m, two_size] at hl hl3 ⊢; omega, fit_two (by decide) (by decide) i1 i2 hf hf3⟩
    rw [if_neg h2]
    exact ⟨.refl _, hl, hf⟩
  · rename_i ts
    refine Lft.bind (hS (.lev 3 ts) hj) fun x ks r _ hs hl hf => ?_
    have hr : ∀ t ∈ r, TOk t := fun t ht => hj t (hs.mem t ht)
    by_cases h : sgn r [45, 62] = true
    · rw [if_pos h]
      have k := sgn_kind h
      have lk := hd_ne k
      refine Lft.tail k (Lft.bind (hS (.lev 2 r.tail) (tail_ok hr)) fun y js r3 _ hs3 hl3 hf3 => ⟨.refl _, by simp only [Job.m, two_size] at hl hl3 ⊢; omega, fit_two (by decide) (by decide) i64_0 i64_0 hf hf3⟩)
    rw [if_neg h]
    exact ⟨.refl _, hl, hf⟩
  · rename_i l ts _ _ _ _
    refine Lft.bind (hS (.lev (l + 1) ts) hj) fun x ks r _ hs hl hf => ?_
    exact (hS (.lp l x ks r) ⟨fun t ht => hj t (hs.mem t ht), hf⟩).mono hl
theorem gP_left : ∀ n j, Job.ok j → Lft j.m j.ts (gP n j)
  | 0, _, _ => trivial
  | n + 1, j, hj => body_left (gP_left n) j hj

/-- From some fuel on the answer stands. -/
def Ev (f : Nat → PR) (q : PR) : Prop := ¬ q = .out ∧ ∃ N, ∀ n, N ≤ n → f n = q
theorem Ev.bind {a : Nat → PR} {f : Nat → Nd → Tr → List TK → PR} {q : PR} (h : Ev a q) (hf : ∀ x ks r, q = .ok x ks r → ∃ q', Ev (fun n => f n x ks r) q') : ∃ q', Ev (fun n => (a n).bind (f n)) q' := by
  obtain ⟨hq, N, hN⟩ := h
  cases q with
  | out => exact absurd rfl hq
  | bad e r => exact ⟨.bad e r, by simp, N, fun n hn => by show (a n).bind (f n) = _; rw [hN n hn]; rfl⟩
  | ok x ks r =>
    obtain ⟨q', h1, M, hM⟩ := hf x ks r rfl
    exact ⟨q', h1, max N M, fun n hn => by show (a n).bind (f n) = _; rw [hN n (by omega)]; exact hM n (by omega)⟩
theorem Ev.sbind {a : SR} {f : Nat → Int → Int → List TK → PR} (hf : ∀ lo hi r, a = .ok lo hi r → ∃ q', Ev (fun n => f n lo hi r) q') : ∃ q', Ev (fun n => a.bind (f n)) q' := by
  cases a with
  | bad e r => exact ⟨.bad e r, by simp, 0, fun n _ => rfl⟩
  | ok lo hi r => exact hf lo hi r rfl
theorem Ev.ok (x : Nd) (ks : Tr) (r : List TK) : ∃ q', Ev (fun _ => .ok x ks r) q' := ⟨_, by simp, 0, fun _ _ => rfl⟩
theorem Ev.bad (e : Int) (r : List TK) : ∃ q', Ev (fun _ => .bad e r) q' := ⟨_, by simp, 0, fun _ _ => rfl⟩
theorem Ev.ite {c : Prop} [Decidable c] {a b : Nat → PR} (h1 : c → ∃ q, Ev a q) (h2 : ¬ c → ∃ q, Ev b q) : ∃ q, Ev (fun n => if c then a n else b n) q := by
  by_cases h : c
  · obtain ⟨q, hq, N, hN⟩ := h1 h; exact ⟨q, hq, N, fun n hn => by simp only [h, if_true]; exact hN n hn⟩
  · obtain ⟨q, hq, N, hN⟩ := h2 h; exact ⟨q, hq, N, fun n hn => by simp only [h, if_false]; exact hN n hn⟩
theorem Reads.of_ev {j : Job} (h : ∃ q, Ev (fun n => bodyP (gP n) j) q) : ∃ q, Reads j q := by
  obtain ⟨q, hq, h⟩ := h
  exact ⟨q, Reads.step hq h⟩
theorem reads_left {j : Job} {q : PR} (h : Reads j q) (hj : j.ok) : Lft j.m j.ts q := by
  obtain ⟨_, N, hN⟩ := h
  rw [← hN N (Nat.le_refl _)]; exact gP_left N j hj
theorem word_ev (ts : List TK) : ∃ q, Ev (fun _ => wordP ts) q := by
  refine ⟨wordP ts, ?_, 0, fun _ _ => rfl⟩
  unfold wordP
  (repeat' split) <;> simp
/-- Every job that may be is read as something. -/
theorem reads_all : ∀ (m : Nat) (ts : List TK), ts.length ≤ m → (∀ t ∈ ts, TOk t) →
    (∀ d l, l + d = 7 → 1 ≤ l → ∃ q, Reads (.lev l ts) q) ∧ (∀ l, l = 1 ∨ l = 3 ∨ l = 4 → ∀ x ks, Fit x ks → ∃ q, Reads (.lp l x ks ts) q) := by
  intro m
  induction m using Nat.strongRecOn with
  | _ m ih =>
    intro ts hm hok
    have lv : ∀ (r : List TK), r.length < ts.length → (∀ t ∈ r, TOk t) → ∀ l, 1 ≤ l → l ≤ 7 → ∃ q, Ev (fun n => gP n (.lev l r)) q := fun r hr ho l h1 h7 =>
      (ih r.length (by omega) r (Nat.le_refl _) ho).1 (7 - l) l (by omega) h1
    have lq : ∀ (r : List TK), r.length < ts.length → (∀ t ∈ r, TOk t) → ∀ l, l = 1 ∨ l = 3 ∨ l = 4 → ∀ x ks, Fit x ks → ∃ q, Ev (fun n => gP n (.lp l x ks r)) q := fun r hr ho l hl x ks hf =>
      (ih r.length (by omega) r (Nat.le_refl _) ho).2 l hl x ks hf
    have tl : ∀ s, sgn ts s = true → ts.tail.length < ts.length := fun s h => by have := hd_ne (sgn_kind h); omega
    have hlp : ∀ l, l = 1 ∨ l = 3 ∨ l = 4 → ∀ x ks, Fit x ks → ∃ q, Reads (.lp l x ks ts) q := by
      intro l hl x ks hf
      refine Reads.of_ev (Ev.ite (fun h => ?_) (fun _ => Ev.ok _ _ _))
      obtain ⟨q, hq⟩ := lv ts.tail (tl _ h) (tail_ok hok) (l + 1) (by omega) (by omega)
      refine Ev.bind hq fun y js r e => ?_
      subst e
      obtain ⟨h1, h2, h3⟩ := reads_left (j := .lev (l + 1) ts.tail) hq (tail_ok hok)
      have := tl _ h
      simp only [Job.m] at h2
      exact lq r (by omega) (fun t ht => tail_ok hok t (h1.mem t ht)) l hl _ _ (fit_two (lop_small l).1 (lop_small l).2 i64_0 i64_0 hf h3)
    refine ⟨?_, hlp⟩
    intro d
    induction d with
    | zero =>
      intro l hl _
      obtain rfl : l = 7 := by omega
      refine Reads.of_ev (Ev.ite (fun h => ?_) (fun _ => word_ev ts))
      obtain ⟨q, hq⟩ := lv ts.tail (tl _ h) (tail_ok hok) 1 (by omega) (by omega)
      exact Ev.bind hq fun y js r e => Ev.ite (fun _ => Ev.ok _ _ _) (fun _ => Ev.bad _ _)
    | succ d ihd =>
      intro l hl h1
      obtain ⟨q0, hq0⟩ := ihd (l + 1) (by omega) (by omega)
      have hl0 := reads_left hq0 hok
      have cs : l = 1 ∨ l = 2 ∨ l = 3 ∨ l = 4 ∨ l = 5 ∨ l = 6 := by omega
      have up : l = 1 ∨ l = 3 ∨ l = 4 → ∃ q, Ev (fun n => (gP n (.lev (l + 1) ts)).bind fun x ks r => gP n (.lp l x ks r)) q := fun h => Ev.bind hq0 fun x ks r e => by
        subst e
        obtain ⟨h2, h3, h4⟩ := hl0
        simp only [Job.m] at h3
        exact lq r (by omega) (fun t ht => hok t (h2.mem t ht)) l h x ks h4
      rcases cs with rfl | rfl | rfl | rfl | rfl | rfl
      · exact Reads.of_ev (up (.inl rfl))
      · refine Reads.of_ev (Ev.bind hq0 fun x ks r e => Ev.ite (fun h => ?_) (fun _ => Ev.ok _ _ _))
        subst e
        obtain ⟨h2, h3, h4⟩ := hl0
        simp only [Job.m] at h3
        have := hd_ne (sgn_kind h)
        obtain ⟨q, hq⟩ := lv r.tail (by omega) (tail_ok (fun t ht => hok t (h2.mem t ht))) 2 (by omega) (by omega)
        exact Ev.bind hq fun y js r e => Ev.ok _ _ _
      · exact Reads.of_ev (up (.inr (.inl rfl)))
      · exact Reads.of_ev (up (.inr (.inr rfl)))
      · refine Reads.of_ev (Ev.bind hq0 fun x ks r e => Ev.ite (fun h => ?_) (fun _ => Ev.ite (fun h => ?_) (fun _ => Ev.ok _ _ _)))
        all_goals
          subst e
          obtain ⟨h2, h3, h4⟩ := hl0
          simp only [Job.m] at h3
          have hn := hd_ne (sgn_kind h)
          refine Ev.sbind fun lo hi r2 e2 => ?_
          have hs := span_left r.tail (tail_ok (fun t ht => hok t (h2.mem t ht)))
          rw [e2] at hs
          obtain ⟨q, hq⟩ := lv r2 (by have := hs.2.1; omega) (fun t ht => tail_ok (fun t ht => hok t (h2.mem t ht)) t (hs.1.mem t ht)) 5 (by omega) (by omega)
          exact Ev.bind hq fun y js r e => Ev.ok _ _ _
      · refine Reads.of_ev (Ev.ite (fun h => ?_) (fun _ => Ev.ite (fun h => ?_) (fun _ => Ev.ite (fun h => ?_) (fun _ => ⟨q0, hq0⟩))))
        · obtain ⟨q, hq⟩ := lv ts.tail (tl _ h) (tail_ok hok) 6 (by omega) (by omega)
          exact Ev.bind hq fun y js r e => Ev.ok _ _ _
        all_goals
          refine Ev.sbind fun lo hi r2 e2 => ?_
          have hs := span_left ts.tail (tail_ok hok)
          rw [e2] at hs
          obtain ⟨q, hq⟩ := lv r2 (by have := hs.2.1; have := tl _ h; omega) (fun t ht => tail_ok hok t (hs.1.mem t ht)) 6 (by omega) (by omega)
          exact Ev.bind hq fun y js r e => Ev.ok _ _ _
theorem reads_lev (ts : List TK) (h : ∀ t ∈ ts, TOk t) (l : Nat) (h1 : 1 ≤ l) (h7 : l ≤ 7) : ∃ q, Reads (.lev l ts) q := (reads_all ts.length ts (Nat.le_refl _) h).1 (7 - l) l (by omega) h1
end Go.Proofs.YtfebkjoohnlifaaDoor
