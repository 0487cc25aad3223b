/- A word's number: the program's walk. -/
import Derived.Test.YtidhlfcmjpnhgaaGreatDoorSD
import Derived.Test.YtidhlfcmjpnhgaaGreatDoorQVlays
import Derived.Test.YtidhlfcmjpnhgaaGreatDoorQTwalk1
import Derived.Lib.AtoiErrMem
import Derived.MapKept
import Derived.Test.YtidhlfcmjpnhgaaGreatDoorSG
import Derived.Test.YtidhlfcmjpnhgaaGreatDoorSA
namespace Go.Proofs.YtidhlfcmjpnhgaaGreatDoor
open Go.RowKit Go.Shelf

/-- What strconv.ErrRange holds when the call begins: an error. -/
def ErrVar (w : World) : Prop := ∃ te pe, w.cell? ⟨5, 0, none⟩ = some (.iface te pe)
theorem ErrVar.fr {w w' : World} (h : ErrVar w) (hf : Fr Nob w w') : ErrVar w' := by
  obtain ⟨te, pe, h⟩ := h
  exact ⟨te, pe, hf.cell h (fun e => e)⟩
theorem ParseInt_ok (w : World) (s : ByteArray) (hmax : s.size ≤ 9223372036854775806) (v : Int) (h : Lib.parseIntB 64 s.data.toList = .ok v) :
    Calls Tryz.prog 63 #[.string s, .int .i64 10, .int .i64 64] w fun e w' => e = .returned (.tuple #[.int .i64 v, .nilIface]) ∧ Fr Nob w w' := by
  have := Any.strconv_ParseInt_10_at64_ok Tryz.vParseInt s hmax v h w
  change Calls Tryz.prog 63 _ _ _ at this
  refine this.mono fun _ _ ⟨h1, h2⟩ => ⟨h1, ?_⟩
  rcases h2 with rfl | ⟨t, rfl⟩
  · exact Fr.refl _ _
  · exact Fr.of_below (Lib.bytesWorld_below _ _ _)
theorem ParseInt_range (w : World) (s : ByteArray) (hmax : s.size ≤ 281474976710656) (h : Lib.parseIntB 64 s.data.toList = .range) (hv : ErrVar w) :
    Calls Tryz.prog 63 #[.string s, .int .i64 10, .int .i64 64] w fun e w' => ∃ v te pe, e = .returned (.tuple #[.int .i64 v, .iface te (.pointer (some pe))]) ∧ Fr Nob w w' := by
  obtain ⟨te, pe, hc⟩ := hv
  have := Any.strconv_ParseInt_10_at64_range Tryz.vParseInt s hmax h (.iface te pe) w hc (.inr ⟨te, pe, rfl⟩)
  change Calls Tryz.prog 63 _ _ _ at this
  exact this.mono fun _ _ ⟨N, h1, _, _, h4⟩ => ⟨_, _, _, h1, Fr.of_below h4⟩
set_option maxHeartbeats 2000000 in
theorem numC_some {l : List UInt8} (h1 : l ≠ []) (h2 : l.all digB = true) (h3 : ¬ (1 < l.length ∧ l.head? = some 48)) : numC l = some (if ddec 0 l ≤ 9223372036854775807 then (ddec 0 l : Int) else -1) := by
  unfold numC
  rw [if_neg]
  rintro (h | h | h)
  · exact h1 h
  · rw [h2] at h; cases h
  · exact h3 h
theorem numC_bad {l : List UInt8} (h : l.all digB = false) : numC l = none := by unfold numC; rw [if_pos (.inr (.inl h))]
end Go.Proofs.YtidhlfcmjpnhgaaGreatDoor

/- Which setting a word is: the search in the settings. -/
namespace Go.Proofs.YtidhlfcmjpnhgaaGreatDoor
open Go.RowKit Go.Lib

def fnV (l : List Nat) (k : Nat) : Value := .func (.func (l.getD k 0)) #[] #[]
theorem bytes_list (s : ByteArray) : (⟨s.data.toList.toArray⟩ : ByteArray) = s := rfl
theorem key_first {l : List UInt8} {k : Nat} (hk : k < 7) (h : ∀ j, j < k → keysC.getD j [] ≠ l) (he : keysC.getD k [] = l) : keyC l = k := by
  subst he
  exact (show ∀ k, k < 7 → keyC (keysC.getD k []) = k by decide) k hk
theorem key_none {l : List UInt8} (h : ∀ j, j < 7 → keysC.getD j [] ≠ l) : keyC l = 7 := by
  unfold keyC
  have hm : l ∉ keysC := by
    intro hm
    obtain ⟨j, hj, e⟩ := List.mem_iff_getElem.1 hm
    refine h j hj ?_
    rw [List.getD_eq_getElem?_getD, List.getElem?_eq_getElem hj, Option.getD_some, e]
  exact List.idxOf_eq_length hm
/-- Which setting a word is; -1: none. -/
def keyI (l : List UInt8) : Int := if keyC l = 7 then -1 else keyC l
end Go.Proofs.YtidhlfcmjpnhgaaGreatDoor

/- The map of settings that were there. -/
namespace Go.Proofs.YtidhlfcmjpnhgaaGreatDoor
open Go.RowKit Go.Lib

def keyV (k : Nat) : Value := strV (keysC.getD k [])
/-- The map at r holds the settings of S. -/
def MapC (w : World) (r : Nat) (S : List Nat) : Prop := ∃ es clock, w.heap[r]? = some (.map es clock) ∧ es.toList.map (·.key) = (S.reverse.map keyV) ∧ (∀ e ∈ es.toList, e.val = .bool true) ∧ ∀ k ∈ S, k < 7
theorem keyV_inj {k j : Nat} (hk : k < 7) (hj : j < 7) (h : keyV k = keyV j) : k = j := by
  have h1 : keysC.getD k [] = keysC.getD j [] := by
    unfold keyV strV at h
    injection h with h
    injection h with h
    exact List.toArray_inj h
  have e := congrArg keyC h1
  have f : ∀ k, k < 7 → keyC (keysC.getD k []) = k := by decide
  rw [f k hk, f j hj] at e
  exact e
theorem MapC.lt {w : World} {r : Nat} {S : List Nat} (h : MapC w r S) : r < w.heap.size := by
  obtain ⟨es, clock, h1, _⟩ := h
  exact (Array.getElem?_eq_some_iff.1 h1).1
theorem MapC.fr {P : Nat → Prop} {w w' : World} {r : Nat} {S : List Nat} (h : MapC w r S) (hf : Fr P w w') (hr : ¬ P r) : MapC w' r S := by
  have hlt := h.lt
  obtain ⟨es, clock, h1, h2⟩ := h
  exact ⟨es, clock, (hf.block r hlt hr).trans h1, h2⟩
theorem map_find {es : Array MapEntry} {S : List Nat} (h2 : es.toList.map (·.key) = S.reverse.map keyV) (h3 : ∀ e ∈ es.toList, e.val = .bool true) (h4 : ∀ k ∈ S, k < 7) {k : Nat} (hk : k < 7) :
    (k ∈ S → ∃ j, Instr.findNow .string (keyV k) es.toList 0 = some (some (j, .bool true))) ∧ (k ∉ S → Instr.findNow .string (keyV k) es.toList 0 = some none) := by
  have hks : ∀ x ∈ es.toList, Go.MapKept.IsKey .string x.key := by
    intro x hx
    have : x.key ∈ es.toList.map (·.key) := List.mem_map.2 ⟨x, hx, rfl⟩
    rw [h2] at this
    obtain ⟨j, _, hj⟩ := List.mem_map.1 this
    rw [← hj]
    trivial
  have hin : ∀ x ∈ es.toList, ∃ j ∈ S, x.key = keyV j := by
    intro x hx
    have : x.key ∈ es.toList.map (·.key) := List.mem_map.2 ⟨x, hx, rfl⟩
    rw [h2] at this
    obtain ⟨j, hj, e⟩ := List.mem_map.1 this
    exact ⟨j, List.mem_reverse.1 hj, e.symm⟩
  rcases Go.MapKept.findNow_spec (d := .string) (k := keyV k) trivial es.toList 0 hks with ⟨h5, h6⟩ | ⟨j, e, h5, h6, h7⟩
  · refine ⟨fun hm => ?_, fun _ => h5⟩
    have : keyV k ∈ es.toList.map (·.key) := by rw [h2]; exact List.mem_map.2 ⟨k, List.mem_reverse.2 hm, rfl⟩
    obtain ⟨x, hx, e⟩ := List.mem_map.1 this
    exact absurd e (h6 x hx)
  · have he := List.mem_of_getElem? h6
    refine ⟨fun _ => ⟨_, by rw [h5, h3 e he]⟩, fun hn => ?_⟩
    obtain ⟨i, hi, e2⟩ := hin e he
    rw [h7] at e2
    exact absurd (keyV_inj hk (h4 i hi) e2 ▸ hi) hn
end Go.Proofs.YtidhlfcmjpnhgaaGreatDoor

/- A line's words: the program's walk. -/
namespace Go.Proofs.YtidhlfcmjpnhgaaGreatDoor
open Go.RowKit Go.Lib

/-- Blocks b and r. -/
def Two (b r : Nat) : Nat → Prop := fun i => i = b ∨ i = r
theorem ErrVar.far {w w' : World} {r : Nat} {S : List Nat} (h : ErrVar w) (hm : MapC w r S) (hf : Fr (Only r) w w') : ErrVar w' := by
  obtain ⟨te, pe, h⟩ := h
  refine ⟨te, pe, hf.cell h (fun e => ?_)⟩
  obtain ⟨es, clock, h2, _⟩ := hm
  have e : 5 = r := e
  rw [← e] at h2
  simp [World.cell?, h2] at h
end Go.Proofs.YtidhlfcmjpnhgaaGreatDoor

/- What strings.Split and strings.FieldsFunc cut, in plain words. No program in sight. -/
namespace Go.Proofs.YtidhlfcmjpnhgaaGreatDoor
open Go.RowKit Go.Lib

theorem index_cons (b c : UInt8) (l : List UInt8) : Lib.index (b :: l) [c] = if b = c then 0 else if Lib.index l [c] == -1 then -1 else Lib.index l [c] + 1 := by
  rw [Lib.index]
  by_cases h : b = c
  · subst h; simp [List.isPrefixOf]
  · have hp : ([c] : List UInt8).isPrefixOf (b :: l) = false := by simp [List.isPrefixOf, Ne.symm h]
    rw [hp, if_neg h]; simp
theorem splitK_eq (c : UInt8) : ∀ l : List UInt8, Lib.splitK [c] 0 (Lib.count l [c]) l = splitC c l
  | [] => by rw [Lib.count_one]; rfl
  | b :: l => by
    have ih := splitK_eq c l
    rw [splitC_cons]
    by_cases h : b = c
    · subst h
      rw [if_pos rfl, Lib.count_cons_eq, Nat.add_comm, Lib.splitK, index_cons, if_pos rfl]
      rw [if_neg (by decide)]
      exact congrArg (List.cons []) ih
    · rw [if_neg h, Lib.count_cons_ne b c l h]
      cases hk : Lib.count l [c] with
      | zero =>
        rw [hk] at ih
        rw [← ih]
        rfl
      | succ k =>
        rw [hk] at ih
        by_cases hm : Lib.index l [c] = -1
        · rw [Lib.count_miss hm] at hk; cases hk
        · have hge := Lib.index_ge l [c]
          have h1 : ¬ (Lib.index l [c] == -1) = true := fun e => hm (beq_iff_eq.1 e)
          rw [Lib.splitK, if_neg h1] at ih
          rw [← ih, Lib.splitK, index_cons, if_neg h, if_neg h1, if_neg (by simp only [beq_iff_eq]; omega)]
          obtain ⟨j, hj⟩ : ∃ j : Nat, Lib.index l [c] = j := ⟨(Lib.index l [c]).toNat, by omega⟩
          rw [hj]
          have e1 : ((j : Int) + 1).toNat = j + 1 := by omega
          have e2 : (j : Int).toNat = j := by omega
          rw [e1, e2]
          rfl
/-- The pieces of strings.Split. -/
theorem splitB_eq (s : ByteArray) : (Lib.splitB ⟨#[10]⟩ 0 (Lib.countB s ⟨#[10]⟩) s).map (·.data.toList) = splitC 10 s.data.toList := by
  rw [Lib.splitB_data]
  exact splitK_eq 10 s.data.toList

/-- A rune that is a blank is the byte of it; another one has no such byte. -/
theorem decode_32 (s : ByteArray) (pos : Nat) (h : pos < s.size) :
    (s.data.toList[pos]? = some 32 → Utf8.decode s pos = (32, 1)) ∧
    (s.data.toList[pos]? ≠ some 32 → (Utf8.decode s pos).1 ≠ 32 ∧ 1 ≤ (Utf8.decode s pos).2 ∧ pos + (Utf8.decode s pos).2 ≤ s.size ∧ ∀ i, pos ≤ i → i < pos + (Utf8.decode s pos).2 → s.data.toList[i]? ≠ some 32) := by
  have hg : ∀ i, (hi : i < s.size) → s.data.toList[i]? = some (s.get! i) := by
    intro i hi
    rw [List.getElem?_eq_getElem (by simpa using hi)]
    congr 1
    rw [ByteArray.get!]
    simp only [Array.getElem_toList]
    exact (getElem!_pos s.data i (by simpa using hi)).symm
  rw [Lib.decode_at]
  have h0 := hg pos h
  rw [h0]
  generalize hb0 : s.get! pos = b0
  generalize hb1 : s.get! (pos + 1) = b1
  generalize hb2 : s.get! (pos + 2) = b2
  generalize hb3 : s.get! (pos + 3) = b3
  have c1 := Lib.decodeN_cases (s.size - pos) b0.toNat b1.toNat b2.toNat b3.toNat
  have c2 := Lib.decodeN_conts (s.size - pos) b0.toNat b1.toNat b2.toNat b3.toNat
  have c3 := Lib.decodeN_le_n' (s.size - pos) b0.toNat b1.toNat b2.toNat b3.toNat (by omega)
  have c4 := Lib.decodeN_ge1 (s.size - pos) b0.toNat b1.toNat b2.toNat b3.toNat
  constructor
  · intro e
    have : b0 = 32 := by injection e
    subst this
    rfl
  · intro e
    have hne : b0 ≠ 32 := fun q => e (by rw [q])
    have hnn : b0.toNat ≠ 32 := fun q => hne (UInt8.toNat_inj.1 q)
    refine ⟨?_, c4, by omega, ?_⟩
    · rcases c1 with ⟨_, q⟩ | ⟨_, _, _, g, q⟩ | ⟨_, _, _, _, g, q⟩ | ⟨g, _⟩ | q
      · rw [q]; exact hnn
      · rw [q]; simp only []; omega
      · rw [q]; simp only []; omega
      · omega
      · rw [q]; decide
    · intro i hi1 hi2
      have hlt : i < s.size := by omega
      rw [hg i hlt]
      intro q
      have q : s.get! i = 32 := by injection q
      have hq : (s.get! i).toNat = 32 := by rw [q]; rfl
      obtain ⟨d1, d2, d3, d4⟩ := c2
      have : i = pos ∨ i = pos + 1 ∨ i = pos + 2 ∨ i = pos + 3 := by omega
      rcases this with rfl | rfl | rfl | rfl
      · rw [hb0] at hq; exact hnn hq
      · rw [hb1] at hq
        have := (d1 (by omega)).1
        omega
      · rw [hb2] at hq
        have := (d2 (by omega)).1
        omega
      · rw [hb3] at hq
        have := (d3 (by omega)).1
        omega
theorem wordsC_hit {k : List UInt8} (h1 : k ≠ []) (h2 : (32 : UInt8) ∉ k) (r : List UInt8) : wordsC (k ++ 32 :: r) = k :: wordsC r := by
  unfold wordsC
  rw [splitC_app h2, List.filter_cons_of_pos]
  cases k with
  | nil => exact absurd rfl h1
  | cons c q => rfl
theorem wordsC_end {k : List UInt8} (h1 : k ≠ []) (h2 : (32 : UInt8) ∉ k) : wordsC k = [k] := by
  unfold wordsC
  rw [splitC_none h2, List.filter_cons_of_pos]
  · rfl
  · cases k with
    | nil => exact absurd rfl h1
    | cons c q => rfl
theorem wordsC_skip (r : List UInt8) : wordsC (32 :: r) = wordsC r := by
  unfold wordsC
  rw [splitC_cons, if_pos rfl, List.filter_cons_of_neg (by simp)]
/-- The bytes of s from a up to b. -/
def cutL (s : ByteArray) (a b : Nat) : List UInt8 := (s.data.toList.drop a).take (b - a)
theorem cutL_eq (s : ByteArray) (a b : Nat) : (s.extract a b).data.toList = cutL s a b := Lib.extract_data s a b
theorem cutL_mem {s : ByteArray} {a b : Nat} {x : UInt8} (h : x ∈ cutL s a b) : ∃ i, a ≤ i ∧ i < b ∧ s.data.toList[i]? = some x := by
  obtain ⟨i, hi⟩ := List.mem_iff_getElem?.1 h
  unfold cutL at hi
  rw [List.getElem?_take] at hi
  split at hi
  · rw [List.getElem?_drop] at hi
    exact ⟨a + i, by omega, by omega, hi⟩
  · cases hi
theorem spans_words (s : ByteArray) : ∀ (f pos : Nat) (st : Option Nat) (acc : List (Nat × Nat)), s.size - pos ≤ f → pos ≤ s.size →
    (∀ a, st = some a → a < pos ∧ ∀ i, a ≤ i → i < pos → s.data.toList[i]? ≠ some 32) →
    (Lib.closeSpans s (Lib.spansFromP (· == 32) s f pos st acc)).map (fun x => cutL s x.1 x.2) = acc.map (fun x => cutL s x.1 x.2) ++ wordsC (s.data.toList.drop (st.getD pos)) := by
  have hlen : s.data.toList.length = s.size := by simp
  -- at the end
  have hend : ∀ (pos : Nat) (st : Option Nat) (acc : List (Nat × Nat)), pos = s.size → (∀ a, st = some a → a < pos ∧ ∀ i, a ≤ i → i < pos → s.data.toList[i]? ≠ some 32) →
      (Lib.closeSpans s (acc, st)).map (fun x => cutL s x.1 x.2) = acc.map (fun x => cutL s x.1 x.2) ++ wordsC (s.data.toList.drop (st.getD pos)) := by
    intro pos st acc hp hst
    subst hp
    cases st with
    | none =>
      simp only [Lib.closeSpans, Option.getD_none]
      rw [List.drop_of_length_le (by omega)]
      simp [wordsC, splitC]
    | some a =>
      obtain ⟨h1, h2⟩ := hst a rfl
      simp only [Lib.closeSpans, Option.getD_some, List.map_append, List.map_cons, List.map_nil]
      congr 1
      have e : cutL s a s.size = s.data.toList.drop a := by
        unfold cutL
        rw [List.take_of_length_le (by rw [List.length_drop]; omega)]
      rw [e, wordsC_end]
      · intro q
        have := congrArg List.length q
        rw [List.length_drop] at this
        simp at this
        omega
      · intro hm
        rw [← e] at hm
        obtain ⟨i, i1, i2, i3⟩ := cutL_mem hm
        exact h2 i i1 i2 i3
  intro f
  induction f with
  | zero =>
    intro pos st acc hf hp hst
    exact hend pos st acc (by omega) hst
  | succ f ih =>
    intro pos st acc hf hp hst
    unfold Lib.spansFromP
    by_cases hlt : pos < s.size
    · rw [if_pos hlt]
      obtain ⟨d1, d2⟩ := decode_32 s pos hlt
      by_cases h32 : s.data.toList[pos]? = some 32
      · rw [d1 h32]
        simp only [beq_self_eq_true, if_true]
        have hd : s.data.toList.drop pos = 32 :: s.data.toList.drop (pos + 1) := by
          rw [List.drop_eq_getElem_cons (by omega)]
          congr 1
          rw [List.getElem?_eq_getElem (by omega)] at h32
          injection h32
        cases st with
        | none =>
          simp only []
          rw [ih (pos + 1) none acc (by omega) (by omega) (fun a e => by cases e)]
          simp only [Option.getD_none]
          rw [hd, wordsC_skip]
        | some a =>
          obtain ⟨h1, h2⟩ := hst a rfl
          simp only []
          rw [ih (pos + 1) none _ (by omega) (by omega) (fun a e => by cases e)]
          simp only [Option.getD_none, Option.getD_some, List.map_append, List.map_cons, List.map_nil, List.append_assoc, List.singleton_append]
          congr 1
          have e : s.data.toList.drop a = cutL s a pos ++ 32 :: s.data.toList.drop (pos + 1) := by
            rw [← hd]
            unfold cutL
            have : s.data.toList.drop pos = (s.data.toList.drop a).drop (pos - a) := by rw [List.drop_drop]; congr 1; omega
            rw [this, List.take_append_drop]
          rw [e, wordsC_hit]
          · intro q
            have := congrArg List.length q
            unfold cutL at this
            rw [List.length_take, List.length_drop] at this
            simp at this
            omega
          · intro hm
            obtain ⟨i, i1, i2, i3⟩ := cutL_mem hm
            exact h2 i i1 i2 i3
      · obtain ⟨e1, e2, e3, e4⟩ := d2 h32
        have hb : ((Utf8.decode s pos).1 == 32) = false := by simpa using e1
        rw [if_neg (by rw [hb]; decide)]
        cases st with
        | none =>
          simp only []
          rw [ih _ (some pos) acc (by omega) e3 (fun a e => by injection e with e; subst e; exact ⟨by omega, e4⟩)]
          rfl
        | some a =>
          obtain ⟨h1, h2⟩ := hst a rfl
          simp only []
          rw [ih _ (some a) acc (by omega) e3 (fun a' e => by
            injection e with e; subst e
            refine ⟨by omega, fun i i1 i2 => ?_⟩
            by_cases hi : i < pos
            · exact h2 i i1 hi
            · exact e4 i (by omega) i2)]
          rfl
    · rw [if_neg hlt]
      exact hend pos st acc (by omega) hst
/-- The pieces of strings.FieldsFunc at blanks. -/
theorem fields_eq (s : ByteArray) : (Lib.goFieldsP (· == 32) s).map (·.data.toList) = wordsC s.data.toList := by
  unfold Lib.goFieldsP Lib.spansOfP
  rw [List.map_map]
  have := spans_words s s.size 0 none [] (by omega) (Nat.zero_le _) (fun a e => by cases e)
  simp only [List.map_nil, List.nil_append, Option.getD_none, List.drop_zero] at this
  rw [← this]
  congr 1
  funext x
  exact cutL_eq s x.1 x.2
end Go.Proofs.YtidhlfcmjpnhgaaGreatDoor

/- A text's lines, a line's words: the library's calls. -/
namespace Go.Proofs.YtidhlfcmjpnhgaaGreatDoor
open Go.RowKit Go.Lib Go.Shelf

/-- The library's bound on short texts holds a number. -/
def MaxVar (w : World) : Prop := ∃ m, w.cell? ⟨0, 0, none⟩ = some (.int .i64 m)
theorem MaxVar.fr {w w' : World} (h : MaxVar w) (hf : Fr Nob w w') : MaxVar w' := by
  obtain ⟨m, h⟩ := h
  exact ⟨m, hf.cell h (fun e => e)⟩
theorem prg_Split (w : World) (s : ByteArray) (hs : s.size ≤ 100000) (hm : MaxVar w) : Calls Tryz.prog 14 #[.string s, .string ⟨#[10]⟩] w fun e w' => IsB e w w' (splitC 10 s.data.toList) := by
  obtain ⟨m, hm⟩ := hm
  have := Any.strings_Split Tryz.strSplit (by kernel_rfl) s ⟨#[10]⟩ m w (by omega) hm (by decide)
  change Calls Tryz.prog 14 _ _ _ at this
  refine this.mono fun e w' ⟨h1, h2⟩ => ?_
  have hl := Lib.splitB_all ⟨#[10]⟩ (by decide) 0 _ s rfl
  have hc := Lib.countB_le ⟨#[10]⟩ (by decide) s.size s (Nat.le_refl _)
  refine ⟨_, _, _, Lib.splitB ⟨#[10]⟩ 0 (Lib.countB s ⟨#[10]⟩) s, h1, splitB_eq s, ?_, fun g o e => ?_, by rw [h2]; exact (Fr.refl _ _).alloc _⟩
  · rw [h2]
    have := Sl.new1 (Blk.new w 9 ((Lib.splitB ⟨#[10]⟩ 0 (Lib.countB s ⟨#[10]⟩) s).map Value.string).toArray) 1 (Lib.countB s ⟨#[10]⟩ + 1) (by simp [hl]) (by unfold maxLen; omega)
    simp only [strB] at this ⊢
    exact this
  · injection e with e; injection e with e1; omega
end Go.Proofs.YtidhlfcmjpnhgaaGreatDoor
