/- Configurations in plain words: lines, words, numbers, settings, what is read, what is wrong, the text. No program in sight. -/
import Derived.Test.YtoegdmpmagbaiaaDoorTplain
import Derived.Test.YtoegdmpmagbaiaaDoorDigs
import Derived.Lib.FieldsP
import Derived.Lib.SplitLaws
import Derived.Lib.SpaceUEq
namespace Go.Proofs.YtoegdmpmagbaiaaDoor
open Go.RowKit Go.Lib

/-- What stands between the bytes b, empty parts too. -/
def splitC (b : UInt8) : List UInt8 → List (List UInt8)
  | [] => [[]]
  | c :: r => if c = b then [] :: splitC b r else match splitC b r with
    | [] => [[c]]
    | x :: xs => (c :: x) :: xs
def onto (p : List UInt8) : List (List UInt8) → List (List UInt8)
  | [] => [p]
  | x :: xs => (p ++ x) :: xs
theorem splitC_ne (b : UInt8) (l : List UInt8) : splitC b l ≠ [] := by
  cases l with
  | nil => simp [splitC]
  | cons c r =>
    unfold splitC
    split
    · simp
    · split <;> simp
theorem splitC_cons (b c : UInt8) (r : List UInt8) : splitC b (c :: r) = if c = b then [] :: splitC b r else onto [c] (splitC b r) := by
  rw [splitC]
  split
  · rfl
  · cases h : splitC b r with
    | nil => exact absurd h (splitC_ne b r)
    | cons x xs => rfl
theorem onto_nil {L : List (List UInt8)} (h : L ≠ []) : onto [] L = L := by cases L with | nil => exact absurd rfl h | cons x xs => rfl
theorem onto_onto (p q : List UInt8) (L : List (List UInt8)) : onto p (onto q L) = onto (p ++ q) L := by cases L <;> simp [onto]
theorem splitC_none {b : UInt8} {l : List UInt8} (h : b ∉ l) : splitC b l = [l] := by
  induction l with
  | nil => rfl
  | cons c r ih =>
    rw [splitC_cons, if_neg (fun e => h (by simp [e])), ih (fun m => h (by simp [m]))]
    rfl
theorem splitC_app {b : UInt8} {l : List UInt8} (h : b ∉ l) (r : List UInt8) : splitC b (l ++ b :: r) = l :: splitC b r := by
  induction l with
  | nil => simp [splitC_cons]
  | cons c q ih =>
    rw [List.cons_append, splitC_cons, if_neg (fun e => h (by simp [e])), ih (fun m => h (by simp [m]))]
    rfl
theorem splitC_len (b : UInt8) (l : List UInt8) : (splitC b l).length ≤ l.length + 1 := by
  induction l with
  | nil => simp [splitC]
  | cons c r ih =>
    rw [splitC_cons]
    split
    · simp; omega
    · cases h : splitC b r with
      | nil => simp [onto]
      | cons x xs => rw [h] at ih; simp [onto] at ih ⊢; omega
theorem splitC_part (b : UInt8) (l : List UInt8) : ∀ x ∈ splitC b l, x.length ≤ l.length ∧ b ∉ x := by
  induction l with
  | nil => simp [splitC]
  | cons c r ih =>
    rw [splitC_cons]
    split
    · intro x hx
      rcases List.mem_cons.1 hx with rfl | hx
      · simp
      · exact ⟨by have := (ih x hx).1; simp; omega, (ih x hx).2⟩
    · rename_i hc
      cases h : splitC b r with
      | nil => exact absurd h (splitC_ne b r)
      | cons y ys =>
        rw [h] at ih
        intro x hx
        rcases List.mem_cons.1 hx with rfl | hx
        · have := ih y (by simp)
          refine ⟨by simp; omega, ?_⟩
          simp only [List.cons_append, List.nil_append, List.mem_cons, not_or]
          exact ⟨fun e => hc e.symm, this.2⟩
        · have := ih x (by simp [hx])
          exact ⟨by simp; omega, this.2⟩
/-- A line's words. -/
def wordsC (l : List UInt8) : List (List UInt8) := (splitC 32 l).filter fun x => !x.isEmpty
theorem wordsC_mem {l x : List UInt8} (h : x ∈ wordsC l) : x ≠ [] ∧ x.length ≤ l.length ∧ (32 : UInt8) ∉ x := by
  unfold wordsC at h
  obtain ⟨h1, h2⟩ := List.mem_filter.1 h
  refine ⟨?_, (splitC_part 32 l x h1).1, (splitC_part 32 l x h1).2⟩
  intro e; subst e; simp at h2
theorem wordsC_len (l : List UInt8) : (wordsC l).length ≤ l.length + 1 := Nat.le_trans (List.length_filter_le _ _) (splitC_len 32 l)
/-- A word's number: -1, where it is above all moments; none: it is no number. -/
def numC (l : List UInt8) : Option Int :=
  if l = [] ∨ l.all digB = false ∨ (1 < l.length ∧ l.head? = some 48) then none else some (if ddec 0 l ≤ 9223372036854775807 then (ddec 0 l : Int) else -1)

structure CF where
  sources : Int
  room : Int
  oldest : Bool
  weights : List Int
  quantum : Int
  timeout : Int
  patience : Int
deriving DecidableEq
def cf0 : CF := ⟨0, 0, false, [], 0, 0, 0⟩
def cf1 : CF := ⟨0, 8, false, [], 4, 0, 0⟩
def tailC : List UInt8 := [116, 97, 105, 108]
def oldC : List UInt8 := [111, 108, 100, 101, 115, 116]
def keysC : List (List UInt8) := [[115, 111, 117, 114, 99, 101, 115], [114, 111, 111, 109], [112, 111, 108, 105, 99, 121], [119, 101, 105, 103, 104, 116, 115], [113, 117, 97, 110, 116, 117, 109], [116, 105, 109, 101, 111, 117, 116], [112, 97, 116, 105, 101, 110, 99, 101]]
/-- Which setting a word is; 7: none. -/
def keyC (w : List UInt8) : Nat := keysC.idxOf w
def loC (k : Nat) : Int := if k = 2 ∨ k = 6 then 0 else 1
def hiC (k : Nat) : Int := if k = 0 then 8 else if k = 1 ∨ k = 4 then 64 else if k = 2 then 1 else if k = 3 then 16 else 9223372036854775807
def inC (k : Nat) (v : Int) : Bool := decide (loC k ≤ v) && decide (v ≤ hiC k)
def polC (w : List UInt8) : Option Int := if w = tailC then some 0 else if w = oldC then some 1 else none
def valC (k : Nat) (w : List UInt8) : Option Int := if k = 2 then polC w else numC w
def valsC (k : Nat) : List (List UInt8) → Option (List Int)
  | [] => some []
  | w :: ws => match valC k w with
    | none => none
    | some v => (valsC k ws).map (v :: ·)
/-- A configuration with a setting. -/
def setC (c : CF) (k : Nat) (vs : List Int) : CF :=
  if k = 0 then { c with sources := vs.headD 0 } else if k = 1 then { c with room := vs.headD 0 } else if k = 2 then { c with oldest := decide (vs.headD 0 = 1) } else if k = 3 then { c with weights := c.weights ++ vs }
  else if k = 4 then { c with quantum := vs.headD 0 } else if k = 5 then { c with timeout := vs.headD 0 } else { c with patience := vs.headD 0 }
/-- What a line's words do; the settings that were there. -/
def stepC (st : CF × List Nat) : List (List UInt8) → Int × (CF × List Nat)
  | [] => (0, st)
  | w :: r =>
    if w.head? = some 35 then (0, st) else if keyC w = 7 then (30, st) else if keyC w ∈ st.2 then (31, st)
    else if r = [] ∨ (1 < r.length ∧ keyC w ≠ 3) then (11, st)
    else match valsC (keyC w) r with
      | none => (11, st)
      | some vs => if vs.all (inC (keyC w)) then (0, (setC st.1 (keyC w) vs, keyC w :: st.2)) else (33, st)
/-- All lines, one by one. -/
def loopC : Nat → CF × List Nat → List (List UInt8) → (Int × Nat) × (CF × List Nat)
  | _, st, [] => ((0, 0), st)
  | i, st, l :: ls => if (stepC st (wordsC l)).1 = 0 then loopC (i + 1) (stepC st (wordsC l)).2 ls else (((stepC st (wordsC l)).1, i + 1), st)
def fillC (st : CF × List Nat) : CF := if 3 ∈ st.2 then st.1 else { st.1 with weights := List.replicate st.1.sources.toNat 1 }
def endC (st : CF × List Nat) : CF × Int :=
  if ¬ (0 ∈ st.2 ∧ 5 ∈ st.2) then (cf0, 32) else if ((fillC st).weights.length : Int) ≠ (fillC st).sources then (cf0, 34) else (fillC st, 0)
/-- What comes of a text: the configuration, what is wrong, the line. -/
def readC (l : List UInt8) : CF × Int × Int :=
  if 512 < l.length then (cf0, 13, 0) else
  if (loopC 0 (cf1, []) (splitC 10 l)).1.1 = 0 then ((endC (loopC 0 (cf1, []) (splitC 10 l)).2).1, (endC (loopC 0 (cf1, []) (splitC 10 l)).2).2, 0)
  else (cf0, (loopC 0 (cf1, []) (splitC 10 l)).1.1, (loopC 0 (cf1, []) (splitC 10 l)).1.2)
/-- A setting's numbers. -/
def tellC (c : CF) (k : Nat) : List Int :=
  if k = 0 then [c.sources] else if k = 1 then [c.room] else if k = 2 then [if c.oldest then 1 else 0] else if k = 3 then c.weights else if k = 4 then [c.quantum] else if k = 5 then [c.timeout] else [c.patience]
/-- What is wrong with a configuration. -/
def checkC (c : CF) : Int :=
  if (List.range 7).all (fun k => (tellC c k).all (inC k)) then (if (c.weights.length : Int) = c.sources then 0 else 34) else 33
def textC (k : Nat) (v : Int) : List UInt8 := if k = 2 then (if v = 1 then oldC else tailC) else digsI v
def rowC (c : CF) (k : Nat) : List UInt8 := keysC.getD k [] ++ (tellC c k).flatMap (fun v => 32 :: textC k v) ++ [10]
/-- A configuration's text. -/
def showC (c : CF) : List UInt8 := if checkC c = 0 then (List.range 7).flatMap (rowC c) else []
end Go.Proofs.YtoegdmpmagbaiaaDoor
