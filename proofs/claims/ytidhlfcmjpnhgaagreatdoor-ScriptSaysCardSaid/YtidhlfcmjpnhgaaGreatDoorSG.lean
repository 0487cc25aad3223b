/- A number's digits: in plain words, and the reference's walk. -/
import Derived.Test.YtidhlfcmjpnhgaaGreatDoorSA
import Derived.Laws.BytesArg
import Derived.IntWalk
import Derived.Test.YtidhlfcmjpnhgaaGreatDoorQTplain
import Derived.Lib.FieldsP
import Derived.Lib.SplitLaws
import Derived.Lib.SpaceUEq
namespace Go.Proofs.YtidhlfcmjpnhgaaGreatDoor
open Go.RowKit

def dgt (k : Nat) : UInt8 := UInt8.ofNat (48 + k)
/-- A number's digits. -/
def dgF : Nat → Nat → List UInt8
  | 0, u => [dgt (u % 10)]
  | n + 1, u => if u < 10 then [dgt u] else dgF n (u / 10) ++ [dgt (u % 10)]
def dg (u : Nat) : List UInt8 := dgF u u
theorem dgF_fuel : ∀ (n m u : Nat), u ≤ n → u ≤ m → dgF n u = dgF m u
  | 0, 0, _, _, _ => rfl
  | 0, m + 1, u, h, _ => by
    have : u = 0 := by omega
    subst this; rfl
  | n + 1, 0, u, _, h => by
    have : u = 0 := by omega
    subst this; rfl
  | n + 1, m + 1, u, hn, hm => by
    unfold dgF
    by_cases h : u < 10
    · rw [if_pos h, if_pos h]
    · rw [if_neg h, if_neg h, dgF_fuel n m (u / 10) (by omega) (by omega)]
theorem dg_small {u : Nat} (h : u < 10) : dg u = [dgt u] := by
  unfold dg
  cases u with
  | zero => rfl
  | succ n => unfold dgF; rw [if_pos h]
theorem dg_big {u : Nat} (h : ¬ u < 10) : dg u = dg (u / 10) ++ [dgt (u % 10)] := by
  unfold dg
  cases u with
  | zero => omega
  | succ n =>
    rw [dgF, if_neg h, dgF_fuel n ((n + 1) / 10) _ (by omega) (Nat.le_refl _)]
theorem dg_ind {p : Nat → Prop} (h1 : ∀ u, u < 10 → p u) (h2 : ∀ u, ¬ u < 10 → p (u / 10) → p u) : ∀ u, p u := by
  intro u
  induction u using Nat.strongRecOn with
  | _ u ih =>
    by_cases h : u < 10
    · exact h1 u h
    · exact h2 u h (ih _ (by omega))
theorem dg_len (u : Nat) : ∀ k, 1 ≤ k → u < 10 ^ k → (dg u).length ≤ k := by
  refine dg_ind (p := fun u => ∀ k, 1 ≤ k → u < 10 ^ k → (dg u).length ≤ k) (fun u h k hk _ => by rw [dg_small h]; simpa using hk) (fun u h ih k hk hu => ?_) u
  rw [dg_big h, List.length_append, List.length_singleton]
  obtain ⟨m, rfl⟩ : ∃ m, k = m + 1 := ⟨k - 1, by omega⟩
  rcases Nat.eq_zero_or_pos m with rfl | hm
  · simp at hu; omega
  · have := ih m hm (by rw [Nat.pow_succ] at hu; omega)
    omega
def digsI (n : Int) : List UInt8 := if n < 0 then 45 :: dg n.natAbs else dg n.natAbs

theorem str_cons (d : Int) (acc : List UInt8) : strOfNums [d] ++ ⟨acc.toArray⟩ = ⟨(UInt8.ofNat d.toNat :: acc).toArray⟩ := by
  apply ByteArray.ext
  simp [strOfNums]
theorem str_45 (l : List UInt8) : ByteArray.mk #[45] ++ ByteArray.mk l.toArray = ⟨(45 :: l).toArray⟩ := by
  apply ByteArray.ext
  simp
theorem dgt_I (v : Nat) : UInt8.ofNat (48 + (v : Int)).toNat = dgt v := by unfold dgt; congr 1
theorem dgt_I2 (v : Nat) : UInt8.ofNat (48 + (v : Int) % 10).toNat = dgt (v % 10) := by unfold dgt; congr 1
def Dg (u : Nat) (v : Nat) (acc : List UInt8) : Prop := dg u = dg v ++ acc
theorem Dg.few {u v : Nat} {acc : List UInt8} (h : Dg u v acc) (hu : u < 18446744073709551616) : acc.length ≤ 20 := by
  have h1 := dg_len u 20 (by omega) (by omega)
  have h2 := congrArg List.length h
  rw [List.length_append] at h2
  omega
set_option maxHeartbeats 2000000 in
theorem ref_Digits (w : World) (n : Int) (hn : I64 n) : Calls Tryz.prog 11 #[.int .i64 n] w fun e w' => e = .returned (.string ⟨(digsI n).toArray⟩) ∧ Fr Nob w w' := by
  unfold I64 at hn
  obtain ⟨n1, n2⟩ := hn
  by_cases h : n < 0
  · obtain ⟨u, hu⟩ : ∃ u : Nat, n.natAbs = u := ⟨_, rfl⟩
    have HU := Lib.hid (show digsI n = 45 :: dg u by unfold digsI; rw [if_pos h, hu])
    have hub : u ≤ 9223372036854775808 := by omega
    have HE := Lib.hid (show -(n + 1) + 1 = (u : Int) by omega)
    clear hu
    go_enter Tryz.func11, Tryz.ntmps11
    go_wp2_with fail
    go_loopw [3, 4] (fun uv sv wr => ∃ (v : Nat) (acc : List UInt8), v ≤ 9223372036854775808 ∧ uv = .int .u64 v ∧ sv = .string ⟨acc.toArray⟩ ∧ Hid (Fr Nob w wr) ∧ Hid (Dg u v acc)) (fun uv _ _ => (intOf uv).toNat)
    case atStart => exact ⟨u, [], by omega, by first | rfl | exact vint (by have := HE.out; omega), rfl, Lib.hid (Fr.refl _ _), Lib.hid (by simp [Dg])⟩
    case round =>
      obtain ⟨v, acc, hv, rfl, rfl, hfr, hd⟩ := hrel
      have hcv := fun (W : World) (x : Int) => run_convert_bytes_arg (P := Tryz.prog) (W.alloc (.cells #[.int .u8 x] 5)) 32 5 Tryz.underlying32 Tryz.underlying5 W.heap.size 0 1 1 [x] rfl (fun i hi => by
        have : i = 0 := by omega
        subst this
        exact (Blk.new W _ _).cell 0) 9 Tryz.underlying9
      have hss : ∀ x : Int, (strOfNums [x]).size = 1 := fun _ => rfl
      have hfew := hd.out.few (by omega)
      by_cases h10 : v < 10
      · have hI : (v : Int) < 10 := by omega
        have HR := Lib.hid (show dg u = dgt v :: acc by rw [hd.out, dg_small h10]; rfl)
        go_wp2_with fail
        rw [str_cons, dgt_I]
        go_ret
        refine ⟨?_, by first | exact hfr.out.alloc _⟩
        rw [HU.out, HR.out]
        exact ret1 (by first | rfl | (rw [str_45]; rfl))
      · have hI : (10 : Int) ≤ v := by omega
        have HD := Lib.hid (show Dg u (v / 10) (dgt (v % 10) :: acc) by unfold Dg; rw [hd.out, dg_big h10]; simp)
        have m1 : 0 ≤ (v : Int) % 10 := by omega
        have m2 : (v : Int) % 10 < 10 := by omega
        go_wp2_with fail
        rw [str_cons, dgt_I2]
        go_roundw
        case rel => exact ⟨v / 10, _, by omega, rfl, rfl, Lib.hid (hfr.out.alloc _), HD⟩
        case measure => simp [intOf]; omega
  · have h0 : 0 ≤ n := by omega
    obtain ⟨u, rfl⟩ : ∃ u : Nat, n = u := ⟨n.toNat, by omega⟩
    have HU := Lib.hid (show digsI u = dg u by unfold digsI; rw [if_neg h]; rfl)
    clear h
    go_enter Tryz.func11, Tryz.ntmps11
    go_wp2_with fail
    go_loopw [3, 4] (fun uv sv wr => ∃ (v : Nat) (acc : List UInt8), v ≤ 9223372036854775808 ∧ uv = .int .u64 v ∧ sv = .string ⟨acc.toArray⟩ ∧ Hid (Fr Nob w wr) ∧ Hid (Dg u v acc)) (fun uv _ _ => (intOf uv).toNat)
    case atStart => exact ⟨u, [], by omega, by first | rfl | rfl, rfl, Lib.hid (Fr.refl _ _), Lib.hid (by simp [Dg])⟩
    case round =>
      obtain ⟨v, acc, hv, rfl, rfl, hfr, hd⟩ := hrel
      have hcv := fun (W : World) (x : Int) => run_convert_bytes_arg (P := Tryz.prog) (W.alloc (.cells #[.int .u8 x] 5)) 32 5 Tryz.underlying32 Tryz.underlying5 W.heap.size 0 1 1 [x] rfl (fun i hi => by
        have : i = 0 := by omega
        subst this
        exact (Blk.new W _ _).cell 0) 9 Tryz.underlying9
      have hss : ∀ x : Int, (strOfNums [x]).size = 1 := fun _ => rfl
      have hfew := hd.out.few (by omega)
      by_cases h10 : v < 10
      · have hI : (v : Int) < 10 := by omega
        have HR := Lib.hid (show dg u = dgt v :: acc by rw [hd.out, dg_small h10]; rfl)
        go_wp2_with fail
        rw [str_cons, dgt_I]
        go_ret
        refine ⟨?_, by first | exact hfr.out.alloc _⟩
        rw [HU.out, HR.out]
        exact ret1 (by first | rfl | (rw [str_45]; rfl))
      · have hI : (10 : Int) ≤ v := by omega
        have HD := Lib.hid (show Dg u (v / 10) (dgt (v % 10) :: acc) by unfold Dg; rw [hd.out, dg_big h10]; simp)
        have m1 : 0 ≤ (v : Int) % 10 := by omega
        have m2 : (v : Int) % 10 < 10 := by omega
        go_wp2_with fail
        rw [str_cons, dgt_I2]
        go_roundw
        case rel => exact ⟨v / 10, _, by omega, rfl, rfl, Lib.hid (hfr.out.alloc _), HD⟩
        case measure => simp [intOf]; omega
end Go.Proofs.YtidhlfcmjpnhgaaGreatDoor

/- Configurations in plain words: lines, words, numbers, settings, what is read, what is wrong, the text. No program in sight. -/
namespace Go.Proofs.YtidhlfcmjpnhgaaGreatDoor
open Go.RowKit Go.Lib

/-- What stands between the bytes b, empty parts too. -/
def splitC (b : UInt8) : List UInt8 → List (List UInt8)
  | [] => [[]]
  | c :: r => if c = b then [] :: splitC b r else match splitC b r with
    | [] => [[c]]
    | x :: xs => (c :: x) :: xs
def onto (p : List UInt8) : List (List UInt8) → List (List UInt8)
  | [] => [p]
  | x :: xs => (p ++ x) :: xs
theorem splitC_ne (b : UInt8) (l : List UInt8) : splitC b l ≠ [] := by
  cases l with
  | nil => simp [splitC]
  | cons c r =>
    unfold splitC
    split
    · simp
    · split <;> simp
theorem splitC_cons (b c : UInt8) (r : List UInt8) : splitC b (c :: r) = if c = b then [] :: splitC b r else onto [c] (splitC b r) := by
  rw [splitC]
  split
  · rfl
  · cases h : splitC b r with
    | nil => exact absurd h (splitC_ne b r)
    | cons x xs => rfl
theorem onto_nil {L : List (List UInt8)} (h : L ≠ []) : onto [] L = L := by cases L with | nil => exact absurd rfl h | cons x xs => rfl
theorem onto_onto (p q : List UInt8) (L : List (List UInt8)) : onto p (onto q L) = onto (p ++ q) L := by cases L <;> simp [onto]
theorem splitC_none {b : UInt8} {l : List UInt8} (h : b ∉ l) : splitC b l = [l] := by
  induction l with
  | nil => rfl
  | cons c r ih =>
    rw [splitC_cons, if_neg (fun e => h (by simp [e])), ih (fun m => h (by simp [m]))]
    rfl
theorem splitC_app {b : UInt8} {l : List UInt8} (h : b ∉ l) (r : List UInt8) : splitC b (l ++ b :: r) = l :: splitC b r := by
  induction l with
  | nil => simp [splitC_cons]
  | cons c q ih =>
    rw [List.cons_append, splitC_cons, if_neg (fun e => h (by simp [e])), ih (fun m => h (by simp [m]))]
    rfl
theorem splitC_len (b : UInt8) (l : List UInt8) : (splitC b l).length ≤ l.length + 1 := by
  induction l with
  | nil => simp [splitC]
  | cons c r ih =>
    rw [splitC_cons]
    split
    · simp; omega
    · cases h : splitC b r with
      | nil => simp [onto]
      | cons x xs => rw [h] at ih; simp [onto] at ih ⊢; omega
theorem splitC_part (b : UInt8) (l : List UInt8) : ∀ x ∈ splitC b l, x.length ≤ l.length ∧ b ∉ x := by
  induction l with
  | nil => simp [splitC]
  | cons c r ih =>
    rw [splitC_cons]
    split
    · intro x hx
      rcases List.mem_cons.1 hx with rfl | hx
      · simp
      · exact ⟨by have := (ih x hx).1; simp; omega, (ih x hx).2⟩
    · rename_i hc
      cases h : splitC b r with
      | nil => exact absurd h (splitC_ne b r)
      | cons y ys =>
        rw [h] at ih
        intro x hx
        rcases List.mem_cons.1 hx with rfl | hx
        · have := ih y (by simp)
          refine ⟨by simp; omega, ?_⟩
          simp only [List.cons_append, List.nil_append, List.mem_cons, not_or]
          exact ⟨fun e => hc e.symm, this.2⟩
        · have := ih x (by simp [hx])
          exact ⟨by simp; omega, this.2⟩
/-- A line's words. -/
def wordsC (l : List UInt8) : List (List UInt8) := (splitC 32 l).filter fun x => !x.isEmpty
theorem wordsC_mem {l x : List UInt8} (h : x ∈ wordsC l) : x ≠ [] ∧ x.length ≤ l.length ∧ (32 : UInt8) ∉ x := by
  unfold wordsC at h
  obtain ⟨h1, h2⟩ := List.mem_filter.1 h
  refine ⟨?_, (splitC_part 32 l x h1).1, (splitC_part 32 l x h1).2⟩
  intro e; subst e; simp at h2
theorem wordsC_len (l : List UInt8) : (wordsC l).length ≤ l.length + 1 := Nat.le_trans (List.length_filter_le _ _) (splitC_len 32 l)
/-- A word's number: -1, where it is above all moments; none: it is no number. -/
def numC (l : List UInt8) : Option Int :=
  if l = [] ∨ l.all digB = false ∨ (1 < l.length ∧ l.head? = some 48) then none else some (if ddec 0 l ≤ 9223372036854775807 then (ddec 0 l : Int) else -1)

structure CF where
  sources : Int
  room : Int
  oldest : Bool
  weights : List Int
  quantum : Int
  timeout : Int
  patience : Int
deriving DecidableEq
def cf0 : CF := ⟨0, 0, false, [], 0, 0, 0⟩
def cf1 : CF := ⟨0, 8, false, [], 4, 0, 0⟩
def tailC : List UInt8 := [116, 97, 105, 108]
def oldC : List UInt8 := [111, 108, 100, 101, 115, 116]
def keysC : List (List UInt8) := [[115, 111, 117, 114, 99, 101, 115], [114, 111, 111, 109], [112, 111, 108, 105, 99, 121], [119, 101, 105, 103, 104, 116, 115], [113, 117, 97, 110, 116, 117, 109], [116, 105, 109, 101, 111, 117, 116], [112, 97, 116, 105, 101, 110, 99, 101]]
/-- Which setting a word is; 7: none. -/
def keyC (w : List UInt8) : Nat := keysC.idxOf w
def loC (k : Nat) : Int := if k = 2 ∨ k = 6 then 0 else 1
def hiC (k : Nat) : Int := if k = 0 then 8 else if k = 1 ∨ k = 4 then 64 else if k = 2 then 1 else if k = 3 then 16 else 9223372036854775807
def inC (k : Nat) (v : Int) : Bool := decide (loC k ≤ v) && decide (v ≤ hiC k)
def polC (w : List UInt8) : Option Int := if w = tailC then some 0 else if w = oldC then some 1 else none
def valC (k : Nat) (w : List UInt8) : Option Int := if k = 2 then polC w else numC w
def valsC (k : Nat) : List (List UInt8) → Option (List Int)
  | [] => some []
  | w :: ws => match valC k w with
    | none => none
    | some v => (valsC k ws).map (v :: ·)
/-- A configuration with a setting. -/
def setC (c : CF) (k : Nat) (vs : List Int) : CF :=
  if k = 0 then { c with sources := vs.headD 0 } else if k = 1 then { c with room := vs.headD 0 } else if k = 2 then { c with oldest := decide (vs.headD 0 = 1) } else if k = 3 then { c with weights := c.weights ++ vs }
  else if k = 4 then { c with quantum := vs.headD 0 } else if k = 5 then { c with timeout := vs.headD 0 } else { c with patience := vs.headD 0 }
/-- What a line's words do; the settings that were there. -/
def stepC (st : CF × List Nat) : List (List UInt8) → Int × (CF × List Nat)
  | [] => (0, st)
  | w :: r =>
    if w.head? = some 35 then (0, st) else if keyC w = 7 then (30, st) else if keyC w ∈ st.2 then (31, st)
    else if r = [] ∨ (1 < r.length ∧ keyC w ≠ 3) then (11, st)
    else match valsC (keyC w) r with
      | none => (11, st)
      | some vs => if vs.all (inC (keyC w)) then (0, (setC st.1 (keyC w) vs, keyC w :: st.2)) else (33, st)
/-- All lines, one by one. -/
def loopC : Nat → CF × List Nat → List (List UInt8) → (Int × Nat) × (CF × List Nat)
  | _, st, [] => ((0, 0), st)
  | i, st, l :: ls => if (stepC st (wordsC l)).1 = 0 then loopC (i + 1) (stepC st (wordsC l)).2 ls else (((stepC st (wordsC l)).1, i + 1), st)
def fillC (st : CF × List Nat) : CF := if 3 ∈ st.2 then st.1 else { st.1 with weights := List.replicate st.1.sources.toNat 1 }
def endC (st : CF × List Nat) : CF × Int :=
  if ¬ (0 ∈ st.2 ∧ 5 ∈ st.2) then (cf0, 32) else if ((fillC st).weights.length : Int) ≠ (fillC st).sources then (cf0, 34) else (fillC st, 0)
/-- What comes of a text: the configuration, what is wrong, the line. -/
def readC (l : List UInt8) : CF × Int × Int :=
  if 512 < l.length then (cf0, 13, 0) else
  if (loopC 0 (cf1, []) (splitC 10 l)).1.1 = 0 then ((endC (loopC 0 (cf1, []) (splitC 10 l)).2).1, (endC (loopC 0 (cf1, []) (splitC 10 l)).2).2, 0)
  else (cf0, (loopC 0 (cf1, []) (splitC 10 l)).1.1, (loopC 0 (cf1, []) (splitC 10 l)).1.2)
/-- A setting's numbers. -/
def tellC (c : CF) (k : Nat) : List Int :=
  if k = 0 then [c.sources] else if k = 1 then [c.room] else if k = 2 then [if c.oldest then 1 else 0] else if k = 3 then c.weights else if k = 4 then [c.quantum] else if k = 5 then [c.timeout] else [c.patience]
/-- What is wrong with a configuration. -/
def checkC (c : CF) : Int :=
  if (List.range 7).all (fun k => (tellC c k).all (inC k)) then (if (c.weights.length : Int) = c.sources then 0 else 34) else 33
def textC (k : Nat) (v : Int) : List UInt8 := if k = 2 then (if v = 1 then oldC else tailC) else digsI v
def rowC (c : CF) (k : Nat) : List UInt8 := keysC.getD k [] ++ (tellC c k).flatMap (fun v => 32 :: textC k v) ++ [10]
/-- A configuration's text. -/
def showC (c : CF) : List UInt8 := if checkC c = 0 then (List.range 7).flatMap (rowC c) else []
end Go.Proofs.YtidhlfcmjpnhgaaGreatDoor

/- Numbers' digits: digits they are, their value, the first one. -/
namespace Go.Proofs.YtidhlfcmjpnhgaaGreatDoor
open Go.RowKit

theorem dgt_nat {k : Nat} (h : k < 10) : (dgt k).toNat = 48 + k := by
  unfold dgt
  rw [UInt8.toNat_ofNat']
  omega
theorem dgt_dig {k : Nat} (h : k < 10) : digB (dgt k) = true := by
  simp only [digB, dgt_nat h, Bool.and_eq_true, decide_eq_true_eq]
  omega
theorem dg_digs (u : Nat) : ∀ c ∈ dg u, digB c = true := by
  refine dg_ind (p := fun u => ∀ c ∈ dg u, digB c = true) (fun u h c hc => ?_) (fun u h ih c hc => ?_) u
  · rw [dg_small h] at hc
    simp only [List.mem_singleton] at hc
    subst hc
    exact dgt_dig h
  · rw [dg_big h] at hc
    rcases List.mem_append.1 hc with hc | hc
    · exact ih c hc
    · simp only [List.mem_singleton] at hc
      subst hc
      exact dgt_dig (by omega)
theorem dg_ne (u : Nat) : dg u ≠ [] := by
  refine dg_ind (p := fun u => dg u ≠ []) (fun u h => by rw [dg_small h]; simp) (fun u h _ => by rw [dg_big h]; simp) u
theorem dg_dec (u : Nat) : ddec 0 (dg u) = u := by
  refine dg_ind (p := fun u => ddec 0 (dg u) = u) (fun u h => ?_) (fun u h ih => ?_) u
  · rw [dg_small h]
    show dstep 0 (dgt u) = u
    unfold dstep
    rw [dgt_nat h]
    omega
  · rw [dg_big h, ddec_snoc, ih]
    unfold dstep
    rw [dgt_nat (by omega)]
    omega
theorem dg_head (u : Nat) : (dg u).head? = some 48 → u = 0 := by
  refine dg_ind (p := fun u => (dg u).head? = some 48 → u = 0) (fun u h e => ?_) (fun u h ih e => ?_) u
  · rw [dg_small h] at e
    simp only [List.head?_cons, Option.some.injEq] at e
    have := dgt_nat h
    rw [e] at this
    have h48 : UInt8.toNat 48 = 48 := rfl
    omega
  · rw [dg_big h] at e
    obtain ⟨c, r, hc⟩ := List.exists_cons_of_ne_nil (dg_ne (u / 10))
    rw [hc] at e ih
    have := ih e
    omega
end Go.Proofs.YtidhlfcmjpnhgaaGreatDoor

/- Configurations: what is shown is read as it was; what is read checks. No program in sight. -/
namespace Go.Proofs.YtidhlfcmjpnhgaaGreatDoor
open Go.RowKit Go.Lib

theorem all_digB {l : List UInt8} (h : ∀ c ∈ l, digB c = true) : l.all digB = true := List.all_eq_true.2 h
theorem numC_dg {u : Nat} (h : u ≤ 9223372036854775807) : numC (dg u) = some (u : Int) := by
  unfold numC
  rw [if_neg, dg_dec, if_pos h]
  rintro (e | e | ⟨e1, e2⟩)
  · exact dg_ne u e
  · rw [all_digB (dg_digs u)] at e; cases e
  · have := dg_head u e2
    subst this
    revert e1; decide
theorem numC_digsI {v : Int} (h0 : 0 ≤ v) (h : v ≤ 9223372036854775807) : numC (digsI v) = some v := by
  unfold digsI
  rw [if_neg (by omega), numC_dg (by omega)]
  congr 1
  omega
/-- A word: not empty, no blank, no line's end. -/
def WordC (x : List UInt8) : Prop := x ≠ [] ∧ (32 : UInt8) ∉ x ∧ (10 : UInt8) ∉ x
theorem word_dg (u : Nat) : WordC (dg u) := by
  refine ⟨dg_ne u, fun h => ?_, fun h => ?_⟩ <;> · have := dg_digs u _ h; revert this; decide
theorem word_text {k : Nat} {v : Int} (h : inC k v = true) : WordC (textC k v) := by
  unfold textC
  split
  · split
    · unfold WordC oldC; decide
    · unfold WordC tailC; decide
  · have h0 : 0 ≤ v := by
      simp only [inC, Bool.and_eq_true, decide_eq_true_eq] at h
      have h1 := h.1
      unfold loC at h1
      split at h1 <;> omega
    unfold digsI
    rw [if_neg (by omega)]
    exact word_dg _
theorem val_text {k : Nat} {v : Int} (h : inC k v = true) : valC k (textC k v) = some v := by
  simp only [inC, Bool.and_eq_true, decide_eq_true_eq] at h
  obtain ⟨h1, h2⟩ := h
  unfold valC textC
  split
  · rename_i hk
    subst hk
    have e1 : loC 2 = 0 := rfl
    have e2 : hiC 2 = 1 := rfl
    rw [e1] at h1; rw [e2] at h2
    split
    · rename_i hv; rw [hv]; rfl
    · rename_i hv
      have : v = 0 := by omega
      rw [this]; rfl
  · refine numC_digsI ?_ ?_
    · unfold loC at h1; split at h1 <;> omega
    · unfold hiC at h2; (repeat' split at h2) <;> omega
theorem vals_text {k : Nat} : ∀ {l : List Int}, l.all (inC k) = true → valsC k (l.map (textC k)) = some l
  | [], _ => rfl
  | v :: r, h => by
    simp only [List.all_cons, Bool.and_eq_true] at h
    simp only [List.map_cons, valsC, val_text h.1, vals_text h.2, Option.map_some]
theorem wordsC_app {k : List UInt8} (h : WordC k) (r : List UInt8) : wordsC (k ++ 32 :: r) = k :: wordsC r := by
  unfold wordsC
  rw [splitC_app h.2.1, List.filter_cons_of_pos]
  have := h.1
  cases k with
  | nil => exact absurd rfl this
  | cons c q => rfl
theorem wordsC_one {k : List UInt8} (h : WordC k) : wordsC k = [k] := by
  unfold wordsC
  rw [splitC_none h.2.1, List.filter_cons_of_pos]
  · rfl
  · have := h.1
    cases k with
    | nil => exact absurd rfl this
    | cons c q => rfl
theorem wordsC_row : ∀ (ts : List (List UInt8)) {k : List UInt8}, WordC k → (∀ t ∈ ts, WordC t) → wordsC (k ++ ts.flatMap (fun t => 32 :: t)) = k :: ts
  | [], k, h, _ => by simpa using wordsC_one h
  | t :: ts, k, h, ht => by
    rw [List.flatMap_cons, List.cons_append, wordsC_app h, wordsC_row ts (ht t (by simp)) (fun q hq => ht q (by simp [hq]))]
/-- A row without its end. -/
def rowW (c : CF) (k : Nat) : List UInt8 := keysC.getD k [] ++ ((tellC c k).map (textC k)).flatMap (fun t => 32 :: t)
theorem rowC_eq (c : CF) (k : Nat) : rowC c k = rowW c k ++ [10] := by
  unfold rowC rowW
  rw [List.flatMap_map]
theorem key_word {k : Nat} (h : k < 7) : WordC (keysC.getD k []) ∧ keyC (keysC.getD k []) = k ∧ (keysC.getD k []).head? ≠ some 35 ∧ (keysC.getD k []).length ≤ 8 := by
  have : k = 0 ∨ k = 1 ∨ k = 2 ∨ k = 3 ∨ k = 4 ∨ k = 5 ∨ k = 6 := by omega
  unfold WordC
  rcases this with rfl | rfl | rfl | rfl | rfl | rfl | rfl <;> decide
theorem rowW_ten {c : CF} {k : Nat} (h : k < 7) (hc : (tellC c k).all (inC k) = true) : (10 : UInt8) ∉ rowW c k := by
  unfold rowW
  intro hm
  rcases List.mem_append.1 hm with hm | hm
  · exact (key_word h).1.2.2 hm
  · obtain ⟨t, ht, hm⟩ := List.mem_flatMap.1 hm
    obtain ⟨v, hv, rfl⟩ := List.mem_map.1 ht
    rcases List.mem_cons.1 hm with e | hm
    · revert e; decide
    · exact (word_text (List.all_eq_true.1 hc v hv)).2.2 hm
theorem rowW_words {c : CF} {k : Nat} (h : k < 7) (hc : (tellC c k).all (inC k) = true) : wordsC (rowW c k) = keysC.getD k [] :: (tellC c k).map (textC k) := by
  refine wordsC_row _ (key_word h).1 fun t ht => ?_
  obtain ⟨v, hv, rfl⟩ := List.mem_map.1 ht
  exact word_text (List.all_eq_true.1 hc v hv)
theorem step_row {c : CF} {k : Nat} (h : k < 7) (hc : (tellC c k).all (inC k) = true) (hne : tellC c k ≠ []) (h1 : 1 < (tellC c k).length → k = 3) (st : CF × List Nat) (hs : k ∉ st.2) :
    stepC st (wordsC (rowW c k)) = (0, (setC st.1 k (tellC c k), k :: st.2)) := by
  rw [rowW_words h hc]
  obtain ⟨_, hk, h35, _⟩ := key_word h
  unfold stepC
  simp only [hk, vals_text hc, hc, if_true]
  rw [if_neg h35, if_neg (by omega), if_neg hs, if_neg]
  rintro (e | ⟨e1, e2⟩)
  · exact hne (List.map_eq_nil_iff.1 e)
  · exact e2 (h1 (by simpa using e1))
theorem loop_ok {i : Nat} {st st' : CF × List Nat} {l : List UInt8} {ls : List (List UInt8)} (h : stepC st (wordsC l) = (0, st')) : loopC i st (l :: ls) = loopC (i + 1) st' ls := by
  rw [loopC, h]
  rfl
theorem split_rows : ∀ (ls : List (List UInt8)), (∀ x ∈ ls, (10 : UInt8) ∉ x) → splitC 10 (ls.flatMap (fun x => x ++ [10])) = ls ++ [[]]
  | [], _ => rfl
  | x :: ls, h => by
    rw [List.flatMap_cons, List.append_assoc, List.singleton_append, splitC_app (h x (by simp)), split_rows ls (fun y hy => h y (by simp [hy])), List.cons_append]
theorem check_all {c : CF} (h : checkC c = 0) : (∀ k, k < 7 → (tellC c k).all (inC k) = true) ∧ (c.weights.length : Int) = c.sources := by
  unfold checkC at h
  split at h
  · rename_i h7
    refine ⟨fun k hk => List.all_eq_true.1 h7 k (List.mem_range.2 hk), ?_⟩
    split at h
    · assumption
    · cases h
  · cases h
theorem check_of {c : CF} (h : ∀ k, k < 7 → (tellC c k).all (inC k) = true) (hl : (c.weights.length : Int) = c.sources) : checkC c = 0 := by
  unfold checkC
  rw [if_pos (List.all_eq_true.2 fun k hk => h k (List.mem_range.1 hk)), if_pos hl]
theorem check_sources {c : CF} (h : checkC c = 0) : 1 ≤ c.sources ∧ c.sources ≤ 8 ∧ 1 ≤ c.weights.length ∧ c.weights.length ≤ 8 := by
  obtain ⟨h1, h2⟩ := check_all h
  have := h1 0 (by omega)
  simp only [tellC, if_true, List.all_cons, List.all_nil, Bool.and_true, inC, Bool.and_eq_true, decide_eq_true_eq, loC, hiC] at this
  simp at this
  omega
theorem dg_19 {u : Nat} (h : u ≤ 9223372036854775807) : (dg u).length ≤ 19 := dg_len u 19 (by omega) (by omega)
theorem text_len {k : Nat} {v : Int} (h : inC k v = true) : (textC k v).length ≤ 19 := by
  simp only [inC, Bool.and_eq_true, decide_eq_true_eq] at h
  obtain ⟨h1, h2⟩ := h
  unfold textC
  split
  · split <;> decide
  · have a : 0 ≤ v := by unfold loC at h1; split at h1 <;> omega
    have b : v ≤ 9223372036854775807 := by unfold hiC at h2; (repeat' split at h2) <;> omega
    unfold digsI
    rw [if_neg (by omega)]
    exact dg_19 (by omega)
theorem texts_len {k : Nat} : ∀ {l : List Int}, l.all (inC k) = true → ((l.map (textC k)).flatMap (fun t => 32 :: t)).length ≤ 20 * l.length
  | [], _ => by simp
  | v :: r, h => by
    simp only [List.all_cons, Bool.and_eq_true] at h
    have h1 := text_len h.1
    have h2 := texts_len h.2
    rw [List.map_cons, List.flatMap_cons, List.length_append, List.length_cons, List.length_cons]
    omega
theorem row_len {c : CF} {k : Nat} (h : k < 7) (hc : (tellC c k).all (inC k) = true) : (rowC c k).length ≤ 9 + 20 * (tellC c k).length := by
  rw [rowC_eq, rowW, List.length_append, List.length_append, List.length_singleton]
  have := (key_word h).2.2.2
  have := texts_len hc
  omega
theorem show_eq {c : CF} (h : checkC c = 0) : showC c = ((List.range 7).map (rowW c)).flatMap (fun x => x ++ [10]) := by
  unfold showC
  rw [if_pos h, List.flatMap_map]
  exact congrArg (fun f => (List.range 7).flatMap f) (funext fun k => rowC_eq c k)
theorem range7 : List.range 7 = [0, 1, 2, 3, 4, 5, 6] := rfl
theorem show_len {c : CF} (h : checkC c = 0) : (showC c).length ≤ 512 := by
  obtain ⟨h1, h2⟩ := check_all h
  obtain ⟨h3, h4, h5, h6⟩ := check_sources h
  unfold showC
  rw [if_pos h, range7]
  simp only [List.flatMap_cons, List.flatMap_nil, List.length_append, List.length_nil]
  have r0 := row_len (by omega) (h1 0 (by omega))
  have r1 := row_len (by omega) (h1 1 (by omega))
  have r2 := row_len (by omega) (h1 2 (by omega))
  have r3 := row_len (by omega) (h1 3 (by omega))
  have r4 := row_len (by omega) (h1 4 (by omega))
  have r5 := row_len (by omega) (h1 5 (by omega))
  have r6 := row_len (by omega) (h1 6 (by omega))
  have e0 : (tellC c 0).length = 1 := rfl
  have e1 : (tellC c 1).length = 1 := rfl
  have e2 : (tellC c 2).length = 1 := rfl
  have e3 : (tellC c 3).length = c.weights.length := rfl
  have e4 : (tellC c 4).length = 1 := rfl
  have e5 : (tellC c 5).length = 1 := rfl
  have e6 : (tellC c 6).length = 1 := rfl
  omega
/-- What is shown is read as it was. -/
theorem read_show {c : CF} (h : checkC c = 0) : readC (showC c) = (c, 0, 0) := by
  obtain ⟨h1, h2⟩ := check_all h
  obtain ⟨h3, h4, h5, h6⟩ := check_sources h
  have hl : splitC 10 (showC c) = (List.range 7).map (rowW c) ++ [[]] := by
    rw [show_eq h]
    refine split_rows _ fun x hx => ?_
    obtain ⟨k, hk, rfl⟩ := List.mem_map.1 hx
    exact rowW_ten (List.mem_range.1 hk) (h1 k (List.mem_range.1 hk))
  have hw : tellC c 3 ≠ [] := by
    intro e
    have : c.weights = [] := e
    rw [this] at h5
    exact absurd h5 (by decide)
  have hloop : loopC 0 (cf1, []) (splitC 10 (showC c)) = ((0, 0), (c, [6, 5, 4, 3, 2, 1, 0])) := by
    rw [hl, range7]
    simp only [List.map_cons, List.map_nil, List.cons_append, List.nil_append]
    rw [loop_ok (step_row (by omega) (h1 0 (by omega)) (by simp [tellC]) (by simp [tellC]) _ (by simp))]
    rw [loop_ok (step_row (by omega) (h1 1 (by omega)) (by simp [tellC]) (by simp [tellC]) _ (by simp))]
    rw [loop_ok (step_row (by omega) (h1 2 (by omega)) (by simp [tellC]) (by simp [tellC]) _ (by simp))]
    rw [loop_ok (step_row (by omega) (h1 3 (by omega)) hw (fun _ => rfl) _ (by simp))]
    rw [loop_ok (step_row (by omega) (h1 4 (by omega)) (by simp [tellC]) (by simp [tellC]) _ (by simp))]
    rw [loop_ok (step_row (by omega) (h1 5 (by omega)) (by simp [tellC]) (by simp [tellC]) _ (by simp))]
    rw [loop_ok (step_row (by omega) (h1 6 (by omega)) (by simp [tellC]) (by simp [tellC]) _ (by simp))]
    rw [loop_ok (st' := _) (show stepC _ (wordsC []) = (0, _) from rfl), loopC]
    congr 2
    cases c with
    | mk a b o ws q t p =>
      cases o <;> simp [setC, tellC, cf1]
  unfold readC
  rw [if_neg (by have := show_len h; omega), hloop]
  simp only [if_true]
  have he : endC (c, [6, 5, 4, 3, 2, 1, 0]) = (c, 0) := by
    unfold endC
    rw [if_neg (by simp)]
    have hf : fillC (c, [6, 5, 4, 3, 2, 1, 0]) = c := by unfold fillC; rw [if_pos (by simp)]
    rw [hf, if_neg (by omega)]
  rw [he]

/-- What the lines have set so far is in range; what they have not set is as it was at first. -/
def SetOk (st : CF × List Nat) : Prop := ∀ k, k < 7 → (k ∈ st.2 → (tellC st.1 k).all (inC k) = true) ∧ (k ∉ st.2 → tellC st.1 k = tellC cf1 k)
theorem tell_set_other {c : CF} {k j : Nat} {vs : List Int} (hk : k < 7) (hj : j < 7) (h : j ≠ k) : tellC (setC c k vs) j = tellC c j := by
  have a : k = 0 ∨ k = 1 ∨ k = 2 ∨ k = 3 ∨ k = 4 ∨ k = 5 ∨ k = 6 := by omega
  have b : j = 0 ∨ j = 1 ∨ j = 2 ∨ j = 3 ∨ j = 4 ∨ j = 5 ∨ j = 6 := by omega
  rcases a with rfl | rfl | rfl | rfl | rfl | rfl | rfl <;> rcases b with rfl | rfl | rfl | rfl | rfl | rfl | rfl <;> first | rfl | exact absurd rfl h
theorem tell_set {c : CF} {k : Nat} {vs : List Int} (hk : k < 7) (h3 : k ≠ 3 → ∃ v, vs = [v]) (hw : k = 3 → c.weights = []) (hi : vs.all (inC k) = true) : tellC (setC c k vs) k = vs := by
  have a : k = 0 ∨ k = 1 ∨ k = 2 ∨ k = 3 ∨ k = 4 ∨ k = 5 ∨ k = 6 := by omega
  rcases a with rfl | rfl | rfl | rfl | rfl | rfl | rfl
  · obtain ⟨v, rfl⟩ := h3 (by decide); rfl
  · obtain ⟨v, rfl⟩ := h3 (by decide); rfl
  · obtain ⟨v, rfl⟩ := h3 (by decide)
    simp only [List.all_cons, List.all_nil, Bool.and_true, inC, Bool.and_eq_true, decide_eq_true_eq] at hi
    have e1 : loC 2 = 0 := rfl
    have e2 : hiC 2 = 1 := rfl
    rw [e1, e2] at hi
    have : v = 0 ∨ v = 1 := by omega
    rcases this with rfl | rfl <;> rfl
  · show c.weights ++ vs = vs
    rw [hw rfl]; rfl
  · obtain ⟨v, rfl⟩ := h3 (by decide); rfl
  · obtain ⟨v, rfl⟩ := h3 (by decide); rfl
  · obtain ⟨v, rfl⟩ := h3 (by decide); rfl
theorem vals_len {k : Nat} : ∀ {l : List (List UInt8)} {vs : List Int}, valsC k l = some vs → vs.length = l.length
  | [], vs, h => by simp only [valsC, Option.some.injEq] at h; subst h; rfl
  | w :: ws, vs, h => by
    rw [valsC] at h
    split at h
    · cases h
    · obtain ⟨q, hq, rfl⟩ := Option.map_eq_some_iff.1 h
      rw [List.length_cons, List.length_cons, vals_len hq]
theorem keyC_le (w : List UInt8) : keyC w ≤ 7 := by
  have := List.idxOf_le_length (a := w) (l := keysC)
  exact this
theorem step_setOk {st : CF × List Nat} (h : SetOk st) (ws : List (List UInt8)) : SetOk (stepC st ws).2 := by
  cases ws with
  | nil => exact h
  | cons w r =>
    rw [stepC]
    split
    · exact h
    split
    · exact h
    split
    · exact h
    split
    · exact h
    rename_i h35 h7 hin hr
    split
    · exact h
    · rename_i vs hv
      split
      · rename_i hall
        have hk : keyC w < 7 := by have := keyC_le w; omega
        have hlen := vals_len hv
        have ht : tellC (setC st.1 (keyC w) vs) (keyC w) = vs := by
          refine tell_set hk (fun h3 => ?_) (fun h3 => ?_) hall
          · have : r.length = 1 := by
              have a : r ≠ [] := fun e => hr (.inl e)
              have b : ¬ 1 < r.length := fun e => hr (.inr ⟨e, h3⟩)
              have := List.length_pos_iff.2 a
              omega
            rw [this] at hlen
            exact List.length_eq_one_iff.1 hlen
          · have := (h 3 (by omega)).2 (by rw [← h3]; exact hin)
            exact this
        intro j hj
        by_cases hjk : j = keyC w
        · subst hjk
          exact ⟨fun _ => by rw [ht]; exact hall, fun hn => absurd (List.mem_cons_self) hn⟩
        · have := h j hj
          show (j ∈ keyC w :: st.2 → _) ∧ (j ∉ keyC w :: st.2 → _)
          rw [tell_set_other hk hj hjk]
          refine ⟨fun hm => this.1 ?_, fun hn => this.2 fun hm => hn (List.mem_cons_of_mem _ hm)⟩
          rcases List.mem_cons.1 hm with e | e
          · exact absurd e hjk
          · exact e
      · exact h
theorem loop_setOk : ∀ (ls : List (List UInt8)) (i : Nat) {st : CF × List Nat}, SetOk st → SetOk (loopC i st ls).2
  | [], _, _, h => h
  | l :: ls, i, st, h => by
    rw [loopC]
    split
    · exact loop_setOk ls (i + 1) (step_setOk h _)
    · exact h
theorem tell_in0 : ∀ k, k < 7 → k ≠ 0 → k ≠ 5 → (tellC cf1 k).all (inC k) = true := by
  intro k hk h0 h5
  have a : k = 1 ∨ k = 2 ∨ k = 3 ∨ k = 4 ∨ k = 6 := by omega
  rcases a with rfl | rfl | rfl | rfl | rfl <;> rfl
theorem end_check {st : CF × List Nat} (h : SetOk st) (he : (endC st).2 = 0) : checkC (endC st).1 = 0 := by
  unfold endC at he ⊢
  split at he
  · cases he
  split at he
  · cases he
  rename_i h1 h2
  rw [if_neg h1, if_neg h2]
  have h1 : 0 ∈ st.2 ∧ 5 ∈ st.2 := Classical.not_not.1 h1
  have h2 : ((fillC st).weights.length : Int) = (fillC st).sources := Classical.not_not.1 h2
  refine check_of (fun k hk => ?_) h2
  have hall : (tellC st.1 k).all (inC k) = true := by
    by_cases hm : k ∈ st.2
    · exact (h k hk).1 hm
    · rw [(h k hk).2 hm]
      refine tell_in0 k hk ?_ ?_
      · rintro rfl; exact hm h1.1
      · rintro rfl; exact hm h1.2
  unfold fillC
  split
  · exact hall
  · by_cases h3 : k = 3
    · subst h3
      show (List.replicate _ (1 : Int)).all (inC 3) = true
      refine List.all_eq_true.2 fun v hv => ?_
      rw [List.eq_of_mem_replicate hv]
      rfl
    · have : tellC { st.1 with weights := List.replicate st.1.sources.toNat 1 } k = tellC st.1 k := by
        have a : k = 0 ∨ k = 1 ∨ k = 2 ∨ k = 4 ∨ k = 5 ∨ k = 6 := by omega
        rcases a with rfl | rfl | rfl | rfl | rfl | rfl <;> rfl
      rw [this]
      exact hall
theorem setOk0 : SetOk (cf1, []) := fun k _ => ⟨fun h => absurd h (by simp), fun _ => rfl⟩
/-- What is read checks. -/
theorem read_check {l : List UInt8} (h : (readC l).2.1 = 0) : checkC (readC l).1 = 0 := by
  unfold readC at h ⊢
  split at h
  · cases h
  rename_i hl
  rw [if_neg hl]
  split at h
  · rename_i h0
    rw [if_pos h0]
    exact end_check (loop_setOk _ _ setOk0) h
  · rename_i h0
    exact absurd h h0
/-- What is not read is nothing. -/
theorem read_bad {l : List UInt8} (h : (readC l).2.1 ≠ 0) : (readC l).1 = cf0 := by
  unfold readC at h ⊢
  split
  · rfl
  rename_i hl
  rw [if_neg hl] at h
  split
  · rename_i h0
    rw [if_pos h0] at h
    unfold endC at h ⊢
    split
    · rfl
    rename_i h1
    rw [if_neg h1] at h
    split
    · rfl
    rename_i h2
    rw [if_neg h2] at h
    exact absurd rfl h
  · rfl
theorem key_word_eq {l : List UInt8} (h : keyC l < 7) : keysC.getD (keyC l) [] = l := by
  have h' : keysC.idxOf l < keysC.length := h
  unfold keyC
  rw [List.getD_eq_getElem?_getD, List.getElem?_eq_getElem h', Option.getD_some]
  exact List.getElem_idxOf h'
theorem vals_snoc {k : Nat} : ∀ {l : List (List UInt8)} {vs : List Int} {x : List UInt8}, valsC k l = some vs → valsC k (l ++ [x]) = (valC k x).map (fun v => vs ++ [v])
  | [], vs, x, h => by
    simp only [valsC, Option.some.injEq] at h
    subst h
    rw [List.nil_append, valsC]
    cases valC k x <;> rfl
  | y :: l, vs, x, h => by
    rw [valsC] at h
    rw [List.cons_append, valsC]
    cases hy : valC k y with
    | none => rw [hy] at h; cases h
    | some v =>
      rw [hy] at h
      simp only [] at h ⊢
      obtain ⟨q, hq, rfl⟩ := Option.map_eq_some_iff.1 h
      rw [vals_snoc hq]
      cases valC k x <;> rfl
theorem vals_none {k : Nat} : ∀ {l r : List (List UInt8)}, valsC k l = none → valsC k (l ++ r) = none
  | [], _, h => by cases h
  | y :: l, r, h => by
    rw [valsC] at h
    rw [List.cons_append, valsC]
    cases hy : valC k y with
    | none => rfl
    | some v =>
      rw [hy] at h
      simp only [Option.map_eq_none_iff] at h ⊢
      exact vals_none h
/-- What a setting's words do. -/
def restC (st : CF × List Nat) (k : Nat) (r : List (List UInt8)) : Int × (CF × List Nat) :=
  if r = [] ∨ (1 < r.length ∧ k ≠ 3) then (11, st) else match valsC k r with
    | none => (11, st)
    | some vs => if vs.all (inC k) then (0, (setC st.1 k vs, k :: st.2)) else (33, st)
theorem stepC_key {st : CF × List Nat} {w : List UInt8} {r : List (List UInt8)} {k : Nat} (h35 : ¬ w.head? = some 35) (hk : keyC w = k) (h7 : k < 7) (hm : k ∉ st.2) : stepC st (w :: r) = restC st k r := by
  subst hk
  rw [stepC, if_neg h35, if_neg (by omega), if_neg hm]
  rfl
theorem restC_bad {st : CF × List Nat} {k : Nat} {r : List (List UInt8)} (h : r = [] ∨ (1 < r.length ∧ k ≠ 3)) : restC st k r = (11, st) := by unfold restC; rw [if_pos h]
theorem restC_none {st : CF × List Nat} {k : Nat} {r : List (List UInt8)} (h : valsC k r = none) : restC st k r = (11, st) := by
  unfold restC
  split
  · rfl
  · rw [h]
theorem restC_far {st : CF × List Nat} {k : Nat} {r : List (List UInt8)} {vs : List Int} (hb : ¬ (r = [] ∨ (1 < r.length ∧ k ≠ 3))) (h : valsC k r = some vs) (hv : vs.all (inC k) = false) : restC st k r = (33, st) := by
  unfold restC
  rw [if_neg hb, h]
  simp only [hv, Bool.false_eq_true, if_false]
theorem restC_ok {st : CF × List Nat} {k : Nat} {r : List (List UInt8)} {vs : List Int} (hb : ¬ (r = [] ∨ (1 < r.length ∧ k ≠ 3))) (h : valsC k r = some vs) (hv : vs.all (inC k) = true) : restC st k r = (0, (setC st.1 k vs, k :: st.2)) := by
  unfold restC
  rw [if_neg hb, h]
  simp only [hv, if_true]
end Go.Proofs.YtidhlfcmjpnhgaaGreatDoor
