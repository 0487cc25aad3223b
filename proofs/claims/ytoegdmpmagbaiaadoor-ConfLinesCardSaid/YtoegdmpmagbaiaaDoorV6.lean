/- Configurations: the order of lines, blanks around words, and lines that say nothing, play no part. No program in sight. -/
import Derived.Test.YtoegdmpmagbaiaaDoorV5
namespace Go.Proofs.YtoegdmpmagbaiaaDoor
open Go.RowKit Go.Lib

/-- What a line says by itself: none: it is wrong; some none: nothing. -/
def lineC : List (List UInt8) → Option (Option (Nat × List Int))
  | [] => some none
  | w :: r => if w.head? = some 35 then some none else if keyC w = 7 then none else if r = [] ∨ (1 < r.length ∧ keyC w ≠ 3) then none
    else match valsC (keyC w) r with
      | none => none
      | some vs => if vs.all (inC (keyC w)) then some (some (keyC w, vs)) else none
def putC (st : CF × List Nat) : Option (Nat × List Int) → Option (CF × List Nat)
  | none => some st
  | some (k, vs) => if k ∈ st.2 then none else some (setC st.1 k vs, k :: st.2)
def runC : CF × List Nat → List (Option (Option (Nat × List Int))) → Option (CF × List Nat)
  | st, [] => some st
  | _, none :: _ => none
  | st, some q :: r => match putC st q with
    | none => none
    | some st' => runC st' r
def goC (st : CF × List Nat) (q : Option (Option (Nat × List Int))) : Option (CF × List Nat) := match q with | none => none | some q => putC st q
theorem runC_cons (st : CF × List Nat) (q : Option (Option (Nat × List Int))) (r : List (Option (Option (Nat × List Int)))) : runC st (q :: r) = match goC st q with | none => none | some st' => runC st' r := by
  cases q <;> rfl
theorem step_go (st : CF × List Nat) (ws : List (List UInt8)) : ((stepC st ws).1 = 0 → goC st (lineC ws) = some (stepC st ws).2) ∧ ((stepC st ws).1 ≠ 0 → goC st (lineC ws) = none) := by
  cases ws with
  | nil => exact ⟨fun _ => rfl, fun h => absurd rfl h⟩
  | cons w r =>
    simp only [stepC, lineC]
    by_cases h1 : w.head? = some 35
    · simp [h1, goC, putC]
    simp only [h1, if_false]
    by_cases h2 : keyC w = 7
    · simp [h2, goC]
    simp only [h2, if_false]
    by_cases h4 : r = [] ∨ (1 < r.length ∧ keyC w ≠ 3)
    · by_cases h3 : keyC w ∈ st.2
      · simp only [h3, h4, if_true]
        exact ⟨fun e => absurd e (by decide), fun _ => rfl⟩
      · simp only [h3, h4, if_true, if_false]
        exact ⟨fun e => absurd e (by decide), fun _ => rfl⟩
    simp only [h4, if_false]
    cases hv : valsC (keyC w) r with
    | none =>
      by_cases h3 : keyC w ∈ st.2
      · simp [h3, goC]
      · simp [h3, goC]
    | some vs =>
      by_cases h5 : vs.all (inC (keyC w)) = true
      · by_cases h3 : keyC w ∈ st.2
        · simp only [h3, h5, if_true, goC, putC]
          exact ⟨fun e => absurd e (by decide), fun _ => trivial⟩
        · simp only [h3, h5, if_true, if_false, goC, putC]
          exact ⟨fun _ => trivial, fun e => absurd rfl e⟩
      · rw [Bool.not_eq_true] at h5
        by_cases h3 : keyC w ∈ st.2
        · simp only [h3, h5, if_true, Bool.false_eq_true, if_false]
          exact ⟨fun e => absurd e (by decide), fun _ => rfl⟩
        · simp only [h3, h5, Bool.false_eq_true, if_false]
          exact ⟨fun e => absurd e (by decide), fun _ => rfl⟩
theorem loop_run : ∀ (ls : List (List UInt8)) (i : Nat) (st : CF × List Nat), ((loopC i st ls).1.1 = 0 → runC st (ls.map fun l => lineC (wordsC l)) = some (loopC i st ls).2) ∧ ((loopC i st ls).1.1 ≠ 0 → runC st (ls.map fun l => lineC (wordsC l)) = none)
  | [], i, st => ⟨fun _ => rfl, fun h => absurd rfl h⟩
  | l :: ls, i, st => by
    rw [List.map_cons, runC_cons, loopC]
    by_cases h : (stepC st (wordsC l)).1 = 0
    · rw [if_pos h, (step_go st (wordsC l)).1 h]
      exact loop_run ls (i + 1) _
    · rw [if_neg h, (step_go st (wordsC l)).2 h]
      exact ⟨fun e => absurd e h, fun _ => rfl⟩
/-- Two ways come to the same configuration and the same settings. -/
def AlikeC : Option (CF × List Nat) → Option (CF × List Nat) → Prop
  | none, none => True
  | some a, some b => a.1 = b.1 ∧ ∀ k, k ∈ a.2 ↔ k ∈ b.2
  | _, _ => False
theorem AlikeC.refl (a : Option (CF × List Nat)) : AlikeC a a := by cases a with | none => trivial | some a => exact ⟨rfl, fun _ => Iff.rfl⟩
theorem AlikeC.trans {a b c : Option (CF × List Nat)} (h : AlikeC a b) (g : AlikeC b c) : AlikeC a c := by
  cases a <;> cases b <;> cases c <;> simp only [AlikeC] at h g ⊢
  exact ⟨h.1.trans g.1, fun k => (h.2 k).trans (g.2 k)⟩
theorem go_alike {a b : CF × List Nat} (h : AlikeC (some a) (some b)) (q : Option (Option (Nat × List Int))) : AlikeC (goC a q) (goC b q) := by
  obtain ⟨h1, h2⟩ := h
  cases q with
  | none => trivial
  | some q =>
    cases q with
    | none => exact ⟨h1, h2⟩
    | some p =>
      obtain ⟨k, vs⟩ := p
      simp only [goC, putC]
      by_cases hk : k ∈ a.2
      · rw [if_pos hk, if_pos ((h2 k).1 hk)]; trivial
      · rw [if_neg hk, if_neg (fun e => hk ((h2 k).2 e))]
        refine ⟨by rw [h1], fun j => ?_⟩
        simp only [List.mem_cons, h2 j]
theorem run_alike : ∀ (l : List (Option (Option (Nat × List Int)))) {a b : CF × List Nat}, AlikeC (some a) (some b) → AlikeC (runC a l) (runC b l)
  | [], _, _, h => h
  | q :: l, a, b, h => by
    rw [runC_cons, runC_cons]
    have := go_alike h q
    cases ha : goC a q with
    | none =>
      cases hb : goC b q with
      | none => trivial
      | some y => rw [ha, hb] at this; exact this.elim
    | some x =>
      cases hb : goC b q with
      | none => rw [ha, hb] at this; exact this.elim
      | some y =>
        rw [ha, hb] at this
        exact run_alike l this
theorem setC_comm {k j : Nat} (h : k ≠ j) (hk : k < 7) (hj : j < 7) (c : CF) (v u : List Int) : setC (setC c k v) j u = setC (setC c j u) k v := by
  have a : k = 0 ∨ k = 1 ∨ k = 2 ∨ k = 3 ∨ k = 4 ∨ k = 5 ∨ k = 6 := by omega
  have b : j = 0 ∨ j = 1 ∨ j = 2 ∨ j = 3 ∨ j = 4 ∨ j = 5 ∨ j = 6 := by omega
  rcases a with rfl | rfl | rfl | rfl | rfl | rfl | rfl <;> rcases b with rfl | rfl | rfl | rfl | rfl | rfl | rfl <;> first | rfl | exact absurd rfl h
theorem go_none (st : CF × List Nat) : goC st none = none := rfl
theorem go_nothing (st : CF × List Nat) : goC st (some none) = some st := rfl
def SmallC (q : Option (Option (Nat × List Int))) : Prop := ∀ k vs, q = some (some (k, vs)) → k < 7
theorem line_small (ws : List (List UInt8)) : SmallC (lineC ws) := by
  intro k vs h
  cases ws with
  | nil => cases h
  | cons w r =>
    rw [lineC] at h
    split at h
    · cases h
    split at h
    · cases h
    split at h
    · cases h
    split at h
    · cases h
    split at h
    · injection h with h; injection h with h; injection h with h1 h2
      have := keyC_le w
      omega
    · cases h
theorem run_swap {x y : Option (Option (Nat × List Int))} (hx : SmallC x) (hy : SmallC y) (l : List (Option (Option (Nat × List Int)))) (st : CF × List Nat) : AlikeC (runC st (x :: y :: l)) (runC st (y :: x :: l)) := by
  cases x with
  | none =>
    rw [runC_cons st none, go_none, runC_cons st y]
    cases goC st y with
    | none => trivial
    | some st' => simp only []; rw [runC_cons st' none, go_none]; trivial
  | some x =>
    cases x with
    | none =>
      rw [runC_cons st (some none), go_nothing, runC_cons st y]
      simp only []
      rw [runC_cons st y]
      cases goC st y with
      | none => trivial
      | some st' => simp only []; rw [runC_cons st' (some none), go_nothing]; exact AlikeC.refl _
    | some x =>
      cases y with
      | none =>
        rw [runC_cons st none, go_none, runC_cons st (some (some x))]
        cases goC st (some (some x)) with
        | none => trivial
        | some st' => simp only []; rw [runC_cons st' none, go_none]; trivial
      | some y =>
        cases y with
        | none =>
          rw [runC_cons st (some none), go_nothing, runC_cons st (some (some x))]
          simp only []
          rw [runC_cons st (some (some x))]
          cases goC st (some (some x)) with
          | none => trivial
          | some st' => simp only []; rw [runC_cons st' (some none), go_nothing]; exact AlikeC.refl _
        | some y =>
          obtain ⟨k, v⟩ := x
          obtain ⟨j, u⟩ := y
          have hk := hx k v rfl
          have hj := hy j u rfl
          rw [runC_cons st (some (some (k, v))), runC_cons st (some (some (j, u)))]
          simp only [goC, putC]
          by_cases h1 : k ∈ st.2
          · rw [if_pos h1]
            by_cases h2 : j ∈ st.2
            · rw [if_pos h2]; trivial
            · rw [if_neg h2]
              simp only [runC_cons, goC, putC]
              rw [if_pos (List.mem_cons_of_mem _ h1)]; trivial
          · rw [if_neg h1]
            by_cases h2 : j ∈ st.2
            · rw [if_pos h2]
              simp only [runC_cons, goC, putC]
              rw [if_pos (List.mem_cons_of_mem _ h2)]; trivial
            · rw [if_neg h2]
              simp only [runC_cons, goC, putC, List.mem_cons]
              by_cases h3 : k = j
              · subst h3
                simp only [true_or, if_true]
                trivial
              · rw [if_neg (show ¬ (j = k ∨ j ∈ st.2) from fun e => e.elim (fun e => h3 e.symm) h2), if_neg (show ¬ (k = j ∨ k ∈ st.2) from fun e => e.elim h3 h1)]
                simp only []
                rw [setC_comm h3 hk hj]
                refine run_alike l ⟨rfl, fun i => ?_⟩
                simp only [List.mem_cons]
                constructor <;> rintro (h | h | h) <;> simp [h]
theorem run_perm {l m : List (Option (Option (Nat × List Int)))} (h : l.Perm m) : (∀ x ∈ l, SmallC x) → ∀ st, AlikeC (runC st l) (runC st m) := by
  induction h with
  | nil => intro _ st; exact AlikeC.refl _
  | cons x _ ih =>
    intro hs st
    rw [runC_cons, runC_cons]
    cases goC st x with
    | none => trivial
    | some st' => exact ih (fun y hy => hs y (List.mem_cons_of_mem _ hy)) st'
  | swap x y l =>
    intro hs st
    exact run_swap (hs y (by simp)) (hs x (by simp)) l st
  | trans h1 _ ih1 ih2 =>
    intro hs st
    exact (ih1 hs st).trans (ih2 (fun x hx => hs x (h1.mem_iff.2 hx)) st)
/-- Lines that say nothing may go. -/
theorem run_filter : ∀ (l : List (Option (Option (Nat × List Int)))) (st : CF × List Nat), runC st l = runC st (l.filter (· ≠ some none))
  | [], _ => rfl
  | q :: l, st => by
    by_cases h : q = some none
    · subst h
      rw [runC_cons, go_nothing, List.filter_cons_of_neg (by simp)]
      exact run_filter l st
    · rw [List.filter_cons_of_pos (by simpa using h), runC_cons, runC_cons]
      cases goC st q with
      | none => rfl
      | some st' => exact run_filter l st'
/-- What comes of the lines. -/
def outC : Option (CF × List Nat) → Option CF
  | none => none
  | some st => if (endC st).2 = 0 then some (endC st).1 else none
theorem out_alike {a b : Option (CF × List Nat)} (h : AlikeC a b) : outC a = outC b := by
  cases a with
  | none => cases b with
    | none => rfl
    | some b => exact h.elim
  | some a => cases b with
    | none => exact h.elim
    | some b =>
      obtain ⟨h1, h2⟩ := h
      have hf : fillC a = fillC b := by unfold fillC; rw [h1]; simp only [h2 3]
      have he : endC a = endC b := by unfold endC; rw [hf]; simp only [h2 0, h2 5]
      simp only [outC, he]
theorem read_out {l : List UInt8} (hl : l.length ≤ 512) : outC (runC (cf1, []) ((splitC 10 l).map fun x => lineC (wordsC x))) = if (readC l).2.1 = 0 then some (readC l).1 else none := by
  have hr := loop_run (splitC 10 l) 0 (cf1, [])
  have hn : ¬ 512 < l.length := by omega
  unfold readC
  simp only [hn, if_false]
  by_cases h : (loopC 0 (cf1, []) (splitC 10 l)).1.1 = 0
  · rw [hr.1 h]
    simp only [h, if_true, outC]
  · rw [hr.2 h]
    simp only [h, if_false, outC]
theorem wordsC_blank (r : List UInt8) : wordsC (32 :: r) = wordsC r := by
  unfold wordsC
  rw [splitC_cons, if_pos rfl, List.filter_cons_of_neg (by simp)]
theorem splitC_last (b : UInt8) : ∀ l : List UInt8, splitC b (l ++ [b]) = splitC b l ++ [[]]
  | [] => by simp [splitC_cons, splitC]
  | c :: r => by
    rw [List.cons_append, splitC_cons, splitC_cons, splitC_last b r]
    split
    · rfl
    · cases h : splitC b r with
      | nil => exact absurd h (splitC_ne b r)
      | cons x xs => rfl
theorem wordsC_blank2 (r : List UInt8) : wordsC (r ++ [32]) = wordsC r := by
  unfold wordsC
  rw [splitC_last, List.filter_append, List.filter_cons_of_neg (by simp)]
  simp
def BlankC (b : List UInt8) : Prop := b = [32] ∨ b = [32, 32, 32]
theorem wordsC_around {b : List UInt8} (h : BlankC b) (x : List UInt8) : wordsC (b ++ x ++ b) = wordsC x := by
  rcases h with rfl | rfl
  · rw [wordsC_blank2]; exact wordsC_blank x
  · rw [show [32, 32, 32] ++ x ++ [32, 32, 32] = ((([32, 32, 32] ++ x) ++ [32]) ++ [32]) ++ [(32 : UInt8)] by simp, wordsC_blank2, wordsC_blank2, wordsC_blank2]
    exact (wordsC_blank _).trans ((wordsC_blank _).trans (wordsC_blank x))
theorem wordsC_note {b : List UInt8} (h : BlankC b) : wordsC ([35, 32] ++ b) = [[35]] := by
  rcases h with rfl | rfl <;> decide
/-- The first text, and the second, of the law. -/
def plainT (l : List (List UInt8)) : List UInt8 := l.flatMap fun x => x ++ [10]
def blankT (b : List UInt8) (l : List (List UInt8)) : List UInt8 := l.flatMap fun x => [35, 32] ++ b ++ [10] ++ b ++ x ++ b ++ [10]
theorem split_blank {b : List UInt8} (hb : BlankC b) : ∀ l : List (List UInt8), (∀ x ∈ l, (10 : UInt8) ∉ x) → splitC 10 (blankT b l) = (l.flatMap fun x => [[35, 32] ++ b, b ++ x ++ b]) ++ [[]]
  | [], _ => rfl
  | x :: l, h => by
    have hbn : (10 : UInt8) ∉ b := by rcases hb with rfl | rfl <;> decide
    have h1 : (10 : UInt8) ∉ [35, 32] ++ b := by
      intro e
      rcases List.mem_append.1 e with e | e
      · revert e; decide
      · exact hbn e
    have h2 : (10 : UInt8) ∉ b ++ x ++ b := by
      intro e
      rcases List.mem_append.1 e with e | e
      · rcases List.mem_append.1 e with e | e
        · exact hbn e
        · exact h x (by simp) e
      · exact hbn e
    have e : blankT b (x :: l) = ([35, 32] ++ b) ++ 10 :: ((b ++ x ++ b) ++ 10 :: blankT b l) := by
      unfold blankT
      rw [List.flatMap_cons]
      simp only [List.append_assoc, List.cons_append, List.nil_append]
    rw [e, splitC_app h1, splitC_app h2, split_blank hb l (fun y hy => h y (by simp [hy]))]
    rfl
theorem len_texts {b : List UInt8} : ∀ {l r : List (List UInt8)}, r.Perm l → (plainT l).length ≤ (blankT b r).length := by
  have h1 : ∀ l : List (List UInt8), (plainT l).length ≤ (blankT b l).length := by
    intro l
    induction l with
    | nil => exact Nat.le_refl _
    | cons x l ih =>
      unfold plainT blankT at ih ⊢
      rw [List.flatMap_cons, List.flatMap_cons, List.length_append, List.length_append]
      simp only [List.length_append, List.length_cons, List.length_nil] at ih ⊢
      omega
  have h2 : ∀ {l r : List (List UInt8)}, r.Perm l → (plainT r).length = (plainT l).length := fun h => (h.flatMap_right _).length_eq
  intro l r h
  rw [← h2 h]
  exact h1 r
/-- The order of lines, blanks around words, and lines that say nothing, play no part. -/
theorem read_lines {b : List UInt8} (hb : BlankC b) {l r : List (List UInt8)} (hp : r.Perm l) (hn : ∀ x ∈ l, (10 : UInt8) ∉ x) (ht : (blankT b r).length ≤ 512) :
    (if (readC (plainT l)).2.1 = 0 then some (readC (plainT l)).1 else none) = (if (readC (blankT b r)).2.1 = 0 then some (readC (blankT b r)).1 else none) := by
  rw [← read_out (Nat.le_trans (len_texts hp) ht), ← read_out ht]
  rw [split_blank hb r (fun x hx => hn x (hp.mem_iff.1 hx)), plainT, split_rows l hn]
  rw [run_filter (_ : List (Option (Option (Nat × List Int)))), run_filter ((_ ++ [[]] : List (List UInt8)).map _)]
  have e1 : ((l ++ [[]]).map fun x => lineC (wordsC x)).filter (· ≠ some none) = (l.map fun x => lineC (wordsC x)).filter (· ≠ some none) := by
    rw [List.map_append, List.filter_append]
    simp [wordsC, splitC, lineC]
  have e2 : ∀ r : List (List UInt8), (((r.flatMap fun x => [[35, 32] ++ b, b ++ x ++ b]) ++ [[]]).map fun x => lineC (wordsC x)).filter (· ≠ some none) = (r.map fun x => lineC (wordsC x)).filter (· ≠ some none) := by
    intro r
    induction r with
    | nil => simp [wordsC, splitC, lineC]
    | cons x r ih =>
      have a : lineC (wordsC ([35, 32] ++ b)) = some none := by rw [wordsC_note hb]; rfl
      have c : lineC (wordsC (b ++ x ++ b)) = lineC (wordsC x) := by rw [wordsC_around hb]
      rw [List.flatMap_cons]
      simp only [List.cons_append, List.nil_append, List.map_cons]
      have a' : lineC (wordsC (35 :: 32 :: b)) = some none := a
      have c' : lineC (wordsC (b ++ x ++ b)) = lineC (wordsC x) := c
      rw [a', c', List.filter_cons_of_neg (by simp)]
      by_cases hx : lineC (wordsC x) = some none
      · rw [hx, List.filter_cons_of_neg (by simp), List.filter_cons_of_neg (by simp)]
        exact ih
      · rw [List.filter_cons_of_pos (by simpa using hx), List.filter_cons_of_pos (by simpa using hx)]
        exact congrArg _ ih
  rw [e1, e2]
  refine out_alike (run_perm ?_ ?_ _)
  · exact (hp.symm.map _).filter _
  · intro x hx
    obtain ⟨y, _, rfl⟩ := List.mem_map.1 (List.mem_filter.1 hx).1
    exact line_small _
/-- The lines, turned. -/
theorem turned_perm (l : List (List UInt8)) (n : Nat) : ((List.range l.length).map fun i => l.getD ((i + n) % l.length) []).Perm l := by
  have e : ((List.range l.length).map fun i => l.getD ((i + n) % l.length) []) = l.drop (n % l.length) ++ l.take (n % l.length) := by
    rcases Nat.eq_zero_or_pos l.length with h0 | h0
    · rw [List.length_eq_zero_iff] at h0; subst h0; simp
    have hm := Nat.mod_lt n h0
    apply List.ext_getElem
    · simp only [List.length_map, List.length_range, List.length_append, List.length_drop, List.length_take]
      omega
    · intro i h1 h2
      simp only [List.length_map, List.length_range] at h1
      rw [List.getElem_map, List.getElem_range, List.getElem_append]
      have hmod : (i + n) % l.length = if i + n % l.length < l.length then i + n % l.length else i + n % l.length - l.length := by
        rw [Nat.add_mod, Nat.mod_eq_of_lt h1]
        split
        · rename_i h; exact Nat.mod_eq_of_lt h
        · rename_i h
          rw [Nat.mod_eq_sub_mod (by omega), Nat.mod_eq_of_lt (by omega)]
      split
      · rename_i h
        rw [List.length_drop] at h
        rw [hmod, if_pos (by omega), List.getElem_drop, List.getD_eq_getElem?_getD, List.getElem?_eq_getElem (by omega)]
        simp only [Option.getD_some]
        congr 1
        omega
      · rename_i h
        rw [List.length_drop] at h
        rw [hmod, if_neg (by omega), List.getElem_take, List.getD_eq_getElem?_getD, List.getElem?_eq_getElem (by omega)]
        simp only [Option.getD_some, List.length_drop]
        congr 1
        omega
  rw [e]
  refine (List.perm_append_comm).trans ?_
  rw [List.take_append_drop]
end Go.Proofs.YtoegdmpmagbaiaaDoor
