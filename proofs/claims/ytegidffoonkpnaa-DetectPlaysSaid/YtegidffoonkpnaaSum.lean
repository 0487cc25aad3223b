/- Sums of slices of int64 in the program and in the reference: both are the fold of the sum that is cut. -/
import Derived.Test.YtegidffoonkpnaaSat
namespace Go.Proofs.Ytegidffoonkpnaa
open Go.RowKit

def ints (l : List Int) : List Value := l.map (Value.int .i64)
def sstep (p : Int × Bool) (x : Int) : Int × Bool := ((sadd p.1 x).1, p.2 || (sadd p.1 x).2)
def ssum (l : List Int) : Int × Bool := l.foldl sstep (0, false)
theorem ssum_snoc (l : List Int) (k : Nat) (h : k < l.length) : ssum (l.take (k + 1)) = sstep (ssum (l.take k)) l[k] := by
  unfold ssum
  rw [List.take_succ_eq_append_getElem h, List.foldl_append]; rfl
theorem ssum_I64 (l : List Int) : I64 (ssum l).1 := by
  unfold ssum
  rw [← List.reverse_reverse l, List.foldl_reverse]
  cases l.reverse with
  | nil => simp [I64]
  | cons x r => simp only [List.foldr_cons]; exact sadd_I64 _ _

set_option maxHeartbeats 400000 in
theorem sat_Sum (w : World) (A : Option Addr) (c : Nat) (l : List Int) (hl : Sl w 1 A l.length c (ints l)) (h64 : ∀ x ∈ l, I64 x) :
    Calls Try.prog 29 #[.slice A l.length c] w fun e w' => e = .returned (.tuple #[.int .i64 (ssum l).1, .bool (ssum l).2]) ∧ w = w' := by
  have hm := hl.max
  have hle := hl.le
  unfold maxLen at hm
  have Hl := Lib.hid hl
  have H64 := Lib.hid h64
  clear hl h64
  go_enter Try.func29, Try.ntmps29
  go_wp2
  go_loop [4, 5, 12] (fun s b i => ∃ k : Nat, k ≤ l.length ∧ i = .int .i64 k ∧ s = .int .i64 (ssum (l.take k)).1 ∧ b = .bool (ssum (l.take k)).2) (fun _ _ i => l.length - (intOf i).toNat)
  case atStart => exact ⟨0, Nat.zero_le _, rfl, rfl, rfl⟩
  case round =>
    obtain ⟨k, hk, rfl, rfl, rfl⟩ := hrel
    by_cases hlt : k < l.length
    · obtain ⟨b, off, u, rfl, hb, hu, hc⟩ := Hl.out.at_ hlt
      have hu' : u = .int .i64 l[k] := by
        simp only [ints, List.getElem?_map, List.getElem?_eq_getElem hlt, Option.map_some, Option.some.injEq] at hu
        exact hu.symm
      subst hu'
      have hx : I64 l[k] := H64.out _ (List.getElem_mem hlt)
      have Hx := Lib.hid hx
      have Hs := Lib.hid (ssum_snoc l k hlt)
      clear hu hx
      generalize hv : l[k] = v at *
      generalize hp : ssum (l.take k) = p at *
      have Hp : Hid (I64 p.1) := by rw [← hp]; exact ssum_I64 _
      clear hv hp
      obtain ⟨p1, p2⟩ := p
      cases p2
      all_goals
        go_wp2_with fail
        refine (sat_Add _ _ _ Hp.out Hx.out).mono ?_
        rintro e w' ⟨rfl, rfl⟩
        go_wp2_with fail
        go_round
        case rel => exact ⟨k + 1, by omega, by go_num, by rw [Hs.out]; rfl, by rw [Hs.out]; simp [sstep]⟩
        case measure => simp [intOf]; omega
    · have hkk : l.take k = l := List.take_of_length_le (by omega)
      go_wp2
      go_ret2
      exact ⟨rfl, rfl⟩
set_option maxHeartbeats 400000 in
theorem ref_Sum (w : World) (A : Option Addr) (c : Nat) (l : List Int) (hl : Sl w 1 A l.length c (ints l)) (h64 : ∀ x ∈ l, I64 x) :
    Calls Try.prog 32 #[.slice A l.length c] w fun e w' => e = .returned (.tuple #[.int .i64 (ssum l).1, .bool (ssum l).2]) ∧ w = w' := by
  have hm := hl.max
  have hle := hl.le
  unfold maxLen at hm
  have Hl := Lib.hid hl
  have H64 := Lib.hid h64
  clear hl h64
  go_enter Try.func32, Try.ntmps32
  go_wp2
  go_loop [4, 5, 6] (fun s b i => ∃ k : Nat, k ≤ l.length ∧ i = .int .i64 k ∧ s = .int .i64 (ssum (l.take k)).1 ∧ b = .bool (ssum (l.take k)).2) (fun _ _ i => l.length - (intOf i).toNat)
  case atStart => exact ⟨0, Nat.zero_le _, rfl, rfl, rfl⟩
  case round =>
    obtain ⟨k, hk, rfl, rfl, rfl⟩ := hrel
    by_cases hlt : k < l.length
    · obtain ⟨b, off, u, rfl, hb, hu, hc⟩ := Hl.out.at_ hlt
      have hu' : u = .int .i64 l[k] := by
        simp only [ints, List.getElem?_map, List.getElem?_eq_getElem hlt, Option.map_some, Option.some.injEq] at hu
        exact hu.symm
      subst hu'
      have hx : I64 l[k] := H64.out _ (List.getElem_mem hlt)
      have Hx := Lib.hid hx
      have Hs := Lib.hid (ssum_snoc l k hlt)
      clear hu hx
      generalize hv : l[k] = v at *
      generalize hp : ssum (l.take k) = p at *
      have Hp : Hid (I64 p.1) := by rw [← hp]; exact ssum_I64 _
      clear hv hp
      obtain ⟨p1, p2⟩ := p
      cases p2
      all_goals
        go_wp2_with fail
        refine (ref_Add _ _ _ Hp.out Hx.out).mono ?_
        rintro e w' ⟨rfl, rfl⟩
        go_wp2_with fail
        go_round
        case rel => exact ⟨k + 1, by omega, by go_num, by rw [Hs.out]; rfl, by rw [Hs.out]; simp [sstep]⟩
        case measure => simp [intOf]; omega
    · have hkk : l.take k = l := List.take_of_length_le (by omega)
      go_wp2
      go_ret2
      exact ⟨rfl, rfl⟩
end Go.Proofs.Ytegidffoonkpnaa
