/- Propositions in order, each once: the one strictly ascending list of the same members. -/
import Derived.Test.YtidhlfcmjpnhgaaGreatDoorSB
import Derived.Deep.RegionHeld3
import Derived.IntWalk
namespace Go.Proofs.YtidhlfcmjpnhgaaGreatDoor
open Go.RowKit Go.Sort Go.Lib

def Asc (l : List PP) : Prop := l.Pairwise plt

theorem asc_unique : ∀ {a b : List PP}, Asc a → Asc b → (∀ x, x ∈ a ↔ x ∈ b) → a = b
  | [], [], _, _, _ => rfl
  | [], y :: _, _, _, h => absurd ((h y).2 (by simp)) (by simp)
  | x :: _, [], _, _, h => absurd ((h x).1 (by simp)) (by simp)
  | x :: a, y :: b, ha, hb, h => by
    have ha' := List.pairwise_cons.1 ha
    have hb' := List.pairwise_cons.1 hb
    have hxy : x = y := by
      rcases List.mem_cons.1 ((h x).1 (by simp)) with e | e
      · exact e
      · rcases List.mem_cons.1 ((h y).2 (by simp)) with e2 | e2
        · exact e2.symm
        · exact absurd (hb'.1 x e) (plt_asymm (ha'.1 y e2))
    subst hxy
    congr 1
    refine asc_unique ha'.2 hb'.2 fun z => ?_
    have hz := h z
    simp only [List.mem_cons] at hz
    constructor
    · intro hm
      rcases hz.1 (.inr hm) with e | e
      · subst e; exact absurd (ha'.1 z hm) (plt_irrefl z)
      · exact e
    · intro hm
      rcases hz.2 (.inr hm) with e | e
      · subst e; exact absurd (hb'.1 z hm) (plt_irrefl z)
      · exact e

/-- Neighbours that are one, cut to one: as a recursion. -/
def ddr : List PP → List PP
  | [] => []
  | [x] => [x]
  | x :: y :: r => if x = y then ddr (y :: r) else x :: ddr (y :: r)

theorem msort_mem (l : List PP) (x : PP) : x ∈ msort l ↔ x ∈ l := List.mem_mergeSort
theorem msort_sorted (l : List PP) : (msort l).Pairwise fun x y => ¬ plt y x := by
  have := List.pairwise_mergeSort (le := fun x y => !(ltOf pord) y x) (fun a b c h1 h2 => by
    simp only [Bool.not_eq_true', ltOf_pord_f] at *
    intro h
    rcases plt_tri a b with h3 | h3 | h3
    · exact h2 (plt_trans h h3)
    · subst h3; exact h2 h
    · exact h1 h3) (fun a b => by
    simp only [Bool.or_eq_true, Bool.not_eq_true', ltOf_pord_f]
    rcases plt_tri a b with h | h | h
    · exact .inl (plt_asymm h)
    · subst h; exact .inl (plt_irrefl _)
    · exact .inr (plt_asymm h)) l
  refine this.imp fun h => ?_
  simpa only [Bool.not_eq_true', ltOf_pord_f] using h

theorem dd_mem_at (l : List PP) (x : PP) : x ∈ dd l ↔ ∃ j, j < l.length ∧ keeps l.toArray j = true ∧ l.toArray[j]! = x := by
  unfold dd compactUpTo
  simp only [List.mem_map, List.mem_filter, List.mem_range]
  constructor
  · rintro ⟨j, ⟨h1, h2⟩, h3⟩; exact ⟨j, h1, h2, h3⟩
  · rintro ⟨j, h1, h2, h3⟩; exact ⟨j, ⟨h1, h2⟩, h3⟩
theorem arr_get (l : List PP) (j : Nat) (h : j < l.length) : l.toArray[j]! = l[j] := by
  rw [getElem!_pos l.toArray j (by simpa using h)]; rfl
theorem dd_mem (l : List PP) (x : PP) : x ∈ dd l ↔ x ∈ l := by
  rw [dd_mem_at]
  constructor
  · rintro ⟨j, h1, _, rfl⟩
    rw [arr_get l j h1]; exact List.getElem_mem h1
  · intro h
    obtain ⟨i, hi, rfl⟩ := List.getElem_of_mem h
    induction i with
    | zero => exact ⟨0, hi, by simp [keeps], arr_get l 0 hi⟩
    | succ i ih =>
      by_cases he : l[i + 1] = l[i]
      · obtain ⟨j, h1, h2, h3⟩ := ih (by omega) (List.getElem_mem _)
        exact ⟨j, h1, h2, h3.trans he.symm⟩
      · refine ⟨i + 1, hi, ?_, arr_get l (i + 1) hi⟩
        rw [keeps_eq l i hi, Bool.not_eq_true', ← Bool.not_eq_true, ppeq_iff]
        exact he
theorem dd_asc {l : List PP} (h : l.Pairwise fun x y => ¬ plt y x) : Asc (dd l) := by
  unfold Asc dd compactUpTo
  rw [List.pairwise_map]
  refine (List.Pairwise.filter _ (List.pairwise_lt_range (n := l.length))).imp_of_mem ?_
  intro i j hi hj hlt
  simp only [List.mem_filter, List.mem_range] at hi hj
  obtain ⟨j, rfl⟩ : ∃ j', j = j' + 1 := ⟨j - 1, by omega⟩
  rw [arr_get l i hi.1, arr_get l (j + 1) hj.1]
  have hk := hj.2
  rw [keeps_eq l j hj.1, Bool.not_eq_true', ← Bool.not_eq_true, ppeq_iff] at hk
  have hs : ∀ a b (ha : a < l.length) (hb : b < l.length), a < b → ¬ plt l[b] l[a] := fun a b ha hb hab => List.pairwise_iff_getElem.1 h a b ha hb hab
  have h1 : plt l[j] l[j + 1] := by
    rcases plt_tri l[j] l[j + 1] with h3 | h3 | h3
    · exact h3
    · exact absurd h3.symm hk
    · exact absurd h3 (hs j (j + 1) (by omega) hj.1 (by omega))
  rcases Nat.lt_or_ge i j with hij | hij
  · rcases plt_tri l[i] l[j] with h3 | h3 | h3
    · exact plt_trans h3 h1
    · rw [h3]; exact h1
    · exact absurd h3 (hs i j hi.1 (by omega) hij)
  · have : i = j := by omega
    subst this; exact h1
theorem lof_asc (l : List PP) : Asc (lof l) := dd_asc (msort_sorted l)
theorem lof_mem (l : List PP) (x : PP) : x ∈ lof l ↔ x ∈ l := (dd_mem _ x).trans (msort_mem l x)
theorem lof_eq {l m : List PP} (hm : Asc m) (h : ∀ x, x ∈ m ↔ x ∈ l) : lof l = m := asc_unique (lof_asc l) hm fun x => (lof_mem l x).trans (h x).symm
end Go.Proofs.YtidhlfcmjpnhgaaGreatDoor

/- Right: names, in order, each once. -/
namespace Go.Proofs.YtidhlfcmjpnhgaaGreatDoor
open Go.RowKit Go.Sort Go.Lib

def okAt (l : List PP) (i : Nat) (p : PP) : Bool := nmOk p.name && (i == 0 || paheadB (l.getD (i - 1) p) p)
def rightB (l : List PP) : Bool := (List.range l.length).all fun i => okAt l i (l.getD i default)
theorem rightB_false {l : List PP} {k : Nat} (hk : k < l.length) (h : okAt l k (l[k]) = false) : rightB l = false := by
  unfold rightB
  rw [List.all_eq_false]
  exact ⟨k, by simpa using hk, by rw [List.getD_eq_getElem?_getD, List.getElem?_eq_getElem hk]; simpa using h⟩
theorem rightB_true {l : List PP} (h : ∀ k, (hk : k < l.length) → okAt l k (l[k]) = true) : rightB l = true := by
  unfold rightB
  rw [List.all_eq_true]
  intro i hi
  have hi' : i < l.length := by simpa using hi
  rw [List.getD_eq_getElem?_getD, List.getElem?_eq_getElem hi']
  exact h i hi'

theorem okAt_zero {l : List PP} {p : PP} : okAt l 0 p = nmOk p.name := by unfold okAt; simp
theorem okAt_succ {l : List PP} {k : Nat} (hk : k < l.length) {p : PP} : okAt l (k + 1) p = (nmOk p.name && paheadB l[k] p) := by
  unfold okAt
  rw [Nat.add_sub_cancel, List.getD_eq_getElem?_getD, List.getElem?_eq_getElem hk]
  simp

theorem lab_orderF (w : World) (a b : PP) :
    Calls Tryz.prog 48 #[.agg #[.string a.name, .int .i64 a.value], .agg #[.string b.name, .int .i64 b.value]] w fun e w' => e = .returned (.int .i64 (pord a b)) ∧ Fr Nob w w' :=
  (lab_order w a b).mono fun _ _ ⟨he, q, os, hw⟩ => ⟨he, hw ▸ fr_grow w q os⟩

set_option maxHeartbeats 4000000 in
theorem lab_Right (w : World) (A : Option Addr) (c : Nat) (l : List PP) (hl : Sl w 2 A l.length c (l.flatMap pcs)) (hsz : ∀ p ∈ l, p.name.size ≤ 9223372036854775807) :
    Calls Tryz.prog 22 #[.slice A l.length c] w fun e w' => e = .returned (.bool (rightB l)) ∧ Fr Nob w w' := by
  have HL := Lib.hid hl
  have HZ := Lib.hid hsz
  have hle := hl.le
  have hmx := hl.max
  unfold maxLen at hmx
  clear hl hsz
  go_enter Tryz.func22, Tryz.ntmps22
  go_wp2_with fail
  go_loopw [7] (fun i wl => ∃ k : Nat, k ≤ l.length ∧ i = .int .i64 k ∧ Hid (Fr Nob w wl) ∧ Hid (∀ j, (hj : j < l.length) → j < k → okAt l j (l[j]) = true)) (fun i _ => l.length - (intOf i).toNat)
  case atStart => exact ⟨0, Nat.zero_le _, rfl, Lib.hid (Fr.refl Nob w), Lib.hid (fun j _ hj => absurd hj (by omega))⟩
  case round =>
    obtain ⟨k, hk, rfl, hfr, hall⟩ := hrel
    by_cases hlt : k < l.length
    · have hI : (k : Int) < l.length := by omega
      have hI3 : 0 ≤ (k : Int) := by omega
      have HF := Lib.hid (fun h => rightB_false hlt h)
      have HT := Lib.hid (fun (h : okAt l k l[k] = true) => show ∀ j, (hj : j < l.length) → j < k + 1 → okAt l j (l[j]) = true from fun j hj hjk => by
        rcases Nat.lt_succ_iff_lt_or_eq.1 hjk with h' | h'
        · exact hall.out j hj h'
        · subst h'; exact h)
      have HS := Lib.hid (HZ.out l[k] (List.getElem_mem hlt))
      have HX := hfr
      cases k with
      | zero =>
        obtain ⟨ba, off, rfl, hba, d0, d1⟩ := pp_cells (HL.out.pure hfr.out) hlt
        rw [okAt_zero] at HF HT
        generalize l[0] = x at *
        obtain ⟨xn, xv⟩ := x
        simp only [Nat.zero_mul, Nat.add_zero, Nat.zero_add] at d0 d1 HF HT HS
        have HN := Lib.hid (fun W => lab_Name W xn HS.out)
        generalize nmOk xn = nb at *
        cases nb
        all_goals
          go_wp2_with fail
          go_quiet ((go_at_call 47; exact Calls.quiet_of_same ((HN.out _).mono fun _ _ ⟨h1, h2⟩ => ⟨h1, h2.symm⟩)))
          all_goals go_wp2_with fail
        · have HR := Lib.hid (HF.out (by simp))
          go_ret
          exact ⟨ret1b HR.out.symm, (hfr.out.alloc _).drewN _⟩
        · go_roundw
          case rel => exact ⟨1, by omega, by go_num, Lib.hid ((hfr.out.alloc _).drewN _), Lib.hid (HT.out (by simp))⟩
          case measure => simp [intOf]; omega
      | succ k =>
        obtain ⟨ba, off, rfl, hba, d0, d1⟩ := pp_cells (HL.out.pure hfr.out) hlt
        obtain ⟨ba2, off2, he, _, p0, p1⟩ := pp_cells (HL.out.pure hfr.out) (k := k) (by omega)
        cases he
        rw [okAt_succ (by omega)] at HF HT
        have HX : Hid (Fr Nob w wr) := hfr
        generalize l[k + 1] = x at *
        generalize l[k] = y at *
        obtain ⟨xn, xv⟩ := x
        obtain ⟨yn, yv⟩ := y
        simp only at d0 d1 p0 p1 HF HT HS
        have HN := Lib.hid (fun W => lab_Name W xn HS.out)
        have HO := Lib.hid (fun W => lab_orderF W ⟨yn, yv⟩ ⟨xn, xv⟩)
        have hk0 : (0 : Int) ≤ (k : Int) := by omega
        have hk1 : (k : Int) < l.length := by omega
        have hk2 : (k : Int) < c := by omega
        have e1 : IntKind.i64.wrap (k : Int) = (k : Int) := IntWalk.i64_in _ (by omega)
        have e2 : IntKind.i64.wrap ((k : Int) + 1 - 1) = (k : Int) := by rw [show (k : Int) + 1 - 1 = (k : Int) by omega]; exact e1
        generalize nmOk xn = nb at *
        cases nb
        · go_wp2_with fail
          go_quiet ((go_at_call 47; exact Calls.quiet_of_same ((HN.out _).mono fun _ _ ⟨h1, h2⟩ => ⟨h1, h2.symm⟩)))
          all_goals go_wp2_with fail
          have HR := Lib.hid (HF.out (by simp))
          go_ret
          exact ⟨ret1b HR.out.symm, (hfr.out.alloc _).drewN _⟩
        · simp only [Bool.true_and] at HF HT
          unfold paheadB at HF HT
          generalize pord ⟨yn, yv⟩ ⟨xn, xv⟩ = r at *
          by_cases hr : r < 0
          all_goals
            go_wp2_with fail
            go_region_held3 (fun w' => w'.cell? ⟨wr.heap.size, 0, none⟩ = some (.string xn) ∧ w'.cell? ⟨wr.heap.size, 1, none⟩ = some (.int .i64 xv) ∧ w'.cell? ⟨ba, off + k * 2, none⟩ = some (.string yn) ∧ w'.cell? ⟨ba, off + k * 2 + 1, none⟩ = some (.int .i64 yv)) (first | go_keep | (go_split_ands; refine ⟨?_, ?_, ?_, ?_⟩ <;> exact Fr.cell hf1 (by assumption) (fun e => e))) (first | ((go_at_call 47); refine (HN.out _).mono ?_; rintro e w1 ⟨rfl, rfl⟩) | ((go_at_call 48); refine (HO.out _).mono ?_; rintro e w1 ⟨rfl, hf1⟩))
            all_goals go_wp2_with fail
          · go_roundw
            case rel => exact ⟨k + 1 + 1, by omega, by go_num, Lib.hid ((hfr.out.alloc _).drew.call hf1 (fun _ h _ => h)), Lib.hid (HT.out (by simpa using hr))⟩
            case measure => simp [intOf]; omega
          · have HR := Lib.hid (HF.out (by simpa using hr))
            go_ret
            exact ⟨ret1b HR.out.symm, (hfr.out.alloc _).drew.call hf1 (fun _ h _ => h)⟩
    · have HR := Lib.hid (rightB_true (l := l) (fun k' hk' => hall.out k' hk' (by omega)))
      go_wp2_with fail
      go_ret
      exact ⟨ret1b HR.out.symm, hfr.out⟩
end Go.Proofs.YtidhlfcmjpnhgaaGreatDoor
