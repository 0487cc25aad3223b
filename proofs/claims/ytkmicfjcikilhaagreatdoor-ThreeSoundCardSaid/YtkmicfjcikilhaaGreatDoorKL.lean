/- How a value stands to an atom's, how two propositions stand. -/
import Derived.Test.YtkmicfjcikilhaaGreatDoorQLname
import Derived.Test.YtkmicfjcikilhaaGreatDoorKA
import Derived.Shelf.SlSortCmp.NoneTotal
import Derived.Shelf.SlicesG.Cmp
import Derived.Shelf.Small.Strs
import Derived.Ground.SlgcProg
import Derived.Ground.SlsfProg
import Derived.Ground.NamesProg
import Derived.Test.YtkmicfjcikilhaaGreatDoorProg
namespace Go.Proofs.YtkmicfjcikilhaaGreatDoor
open Go.RowKit

structure PP where
  name : ByteArray
  value : Int
def pcs (p : PP) : List Value := [.string p.name, .int .i64 p.value]
theorem pcs_len (p : PP) : (pcs p).length = 2 := rfl

def meets (v op x : Int) : Bool :=
  if op = 0 then true else if op = 1 then v == x else if op = 2 then v != x else if op = 3 then decide (v < x) else if op = 4 then decide (v ≤ x) else if op = 5 then decide (x < v) else if op = 6 then decide (x ≤ v) else false

set_option maxHeartbeats 1000000 in
theorem lab_stands (w : World) (v op x : Int) :
    Calls Tryz.prog 62 #[.int .i64 v, .int .i64 op, .int .i64 x] w fun e w' => e = .returned (.bool (meets v op x)) ∧ w = w' := by
  by_cases h0 : op = 0
  · subst h0
    go_enter Tryz.func62, Tryz.ntmps62
    go_wp2
    all_goals (go_ret; exact ⟨rfl, rfl⟩)
  by_cases h1 : op = 1
  · subst h1
    go_enter Tryz.func62, Tryz.ntmps62
    go_wp2
    all_goals (go_ret; exact ⟨rfl, rfl⟩)
  by_cases h2 : op = 2
  · subst h2
    go_enter Tryz.func62, Tryz.ntmps62
    go_wp2
    all_goals (go_ret; exact ⟨rfl, rfl⟩)
  by_cases h3 : op = 3
  · subst h3
    go_enter Tryz.func62, Tryz.ntmps62
    go_wp2
    all_goals (go_ret; exact ⟨rfl, rfl⟩)
  by_cases h4 : op = 4
  · subst h4
    go_enter Tryz.func62, Tryz.ntmps62
    go_wp2
    all_goals (go_ret; exact ⟨rfl, rfl⟩)
  by_cases h5 : op = 5
  · subst h5
    go_enter Tryz.func62, Tryz.ntmps62
    go_wp2
    all_goals (go_ret; exact ⟨rfl, rfl⟩)
  by_cases h6 : op = 6
  · subst h6
    go_enter Tryz.func62, Tryz.ntmps62
    go_wp2
    all_goals (go_ret; exact ⟨by simp [meets], rfl⟩)
  have H := Lib.hid (show meets v op x = false by unfold meets; rw [if_neg h0, if_neg h1, if_neg h2, if_neg h3, if_neg h4, if_neg h5, if_neg h6])
  go_enter Tryz.func62, Tryz.ntmps62
  go_wp2
  all_goals (go_ret; exact ⟨ret1b H.out.symm, rfl⟩)

end Go.Proofs.YtkmicfjcikilhaaGreatDoor

/- The library contracts that these texts use, laid at this program in plain words (by the shelf's plain mode). -/
namespace Go.Proofs
open Go.Shelf
def Tryz.cmpInt_ren : Go.Shelf.Ren := ⟨fun | 5 => 59 | 7 => 69 | n => n, fun | 22 => 2 | 3 => 3 | 4 => 4 | n => n, fun | n => n⟩
theorem Tryz.cmpInt : Go.Proofs.SlLaysC2.n5 Tryz.prog Tryz.cmpInt_ren := {
  mixed := by kernel_rfl
  f5 := ⟨Tryz.f59.name, by decide, Tryz.func59.trans (congrArg some (by kernel_rfl))⟩
  f7 := ⟨Tryz.f69.name, by decide, Tryz.func69.trans (congrArg some (by kernel_rfl))⟩
  t3 := Tryz.underlying3
  a3 := Tryz.isAgg3
  z3 := Tryz.sizeOf3
  v3 := Tryz.zeroValue3
  t4 := Tryz.underlying4
  a4 := Tryz.isAgg4
  z4 := Tryz.sizeOf4
  v4 := Tryz.zeroValue4
  t22 := Tryz.underlying2
  a22 := Tryz.isAgg2
  z22 := Tryz.sizeOf2
  v22 := Tryz.zeroValue2 }
def Tryz.strCmp_ren : Go.Shelf.Ren := ⟨fun | 106 => 60 | 213 => 70 | 265 => 85 | n => n, fun | 9 => 9 | 3 => 3 | n => n, fun | n => n⟩
theorem Tryz.strCmp : Go.Proofs.Lays.n106 Tryz.prog Tryz.strCmp_ren := {
  mixed := by kernel_rfl
  f106 := Tryz.func60.trans (congrArg some (by kernel_rfl))
  f213 := Tryz.func70.trans (congrArg some (by kernel_rfl))
  f265 := Tryz.func85.trans (congrArg some (by kernel_rfl))
  t3 := Tryz.underlying3
  a3 := Tryz.isAgg3
  z3 := Tryz.sizeOf3
  v3 := Tryz.zeroValue3
  t9 := Tryz.underlying9
  a9 := Tryz.isAgg9
  z9 := Tryz.sizeOf9
  v9 := Tryz.zeroValue9 }
def Tryz.sortPP_ren : Go.Shelf.Ren := ⟨fun | 6 => 67 | 15 => 84 | 14 => 83 | 28 => 96 | 29 => 97 | 20 => 88 | 21 => 89 | 22 => 90 | 23 => 91 | 24 => 92 | 25 => 93 | 26 => 94 | 27 => 95 | 46 => 98 | 47 => 99 | 48 => 100 | 49 => 101 | 50 => 102 | 57 => 103 | n => n, fun | 22 => 42 | 24 => 47 | 25 => 81 | 3 => 3 | 39 => 113 | 0 => 0 | 53 => 126 | 55 => 51 | 4 => 4 | 46 => 120 | 45 => 119 | 50 => 95 | 5 => 5 | 9 => 9 | 66 => 131 | 70 => 135 | 76 => 137 | 77 => 138 | n => n, fun | n => n⟩
theorem Tryz.sortPP : Go.Proofs.SlLaysF0.n6 Tryz.prog Tryz.sortPP_ren := {
  mixed := by kernel_rfl
  f6 := ⟨Tryz.f67.name, by decide, Tryz.func67.trans (congrArg some (by kernel_rfl))⟩
  f14 := ⟨Tryz.f83.name, by decide, Tryz.func83.trans (congrArg some (by kernel_rfl))⟩
  f15 := Tryz.func84.trans (congrArg some (by kernel_rfl))
  f20 := ⟨Tryz.f88.name, by decide, Tryz.func88.trans (congrArg some (by kernel_rfl))⟩
  f21 := ⟨Tryz.f89.name, by decide, Tryz.func89.trans (congrArg some (by kernel_rfl))⟩
  f22 := ⟨Tryz.f90.name, by decide, Tryz.func90.trans (congrArg some (by kernel_rfl))⟩
  f23 := ⟨Tryz.f91.name, by decide, Tryz.func91.trans (congrArg some (by kernel_rfl))⟩
  f24 := ⟨Tryz.f92.name, by decide, Tryz.func92.trans (congrArg some (by kernel_rfl))⟩
  f25 := ⟨Tryz.f93.name, by decide, Tryz.func93.trans (congrArg some (by kernel_rfl))⟩
  f26 := ⟨Tryz.f94.name, by decide, Tryz.func94.trans (congrArg some (by kernel_rfl))⟩
  f27 := ⟨Tryz.f95.name, by decide, Tryz.func95.trans (congrArg some (by kernel_rfl))⟩
  f28 := Tryz.func96.trans (congrArg some (by kernel_rfl))
  f29 := Tryz.func97.trans (congrArg some (by kernel_rfl))
  f46 := ⟨Tryz.f98.name, by decide, Tryz.func98.trans (congrArg some (by kernel_rfl))⟩
  f47 := Tryz.func99.trans (congrArg some (by kernel_rfl))
  f48 := Tryz.func100.trans (congrArg some (by kernel_rfl))
  f49 := ⟨Tryz.f101.name, by decide, Tryz.func101.trans (congrArg some (by kernel_rfl))⟩
  f50 := ⟨Tryz.f102.name, by decide, Tryz.func102.trans (congrArg some (by kernel_rfl))⟩
  f57 := ⟨Tryz.f103.name, by decide, Tryz.func103.trans (congrArg some (by kernel_rfl))⟩
  t0 := Tryz.underlying0
  a0 := Tryz.isAgg0
  z0 := Tryz.sizeOf0
  v0 := Tryz.zeroValue0
  t3 := Tryz.underlying3
  a3 := Tryz.isAgg3
  z3 := Tryz.sizeOf3
  v3 := Tryz.zeroValue3
  t4 := Tryz.underlying4
  a4 := Tryz.isAgg4
  z4 := Tryz.sizeOf4
  v4 := Tryz.zeroValue4
  t5 := Tryz.underlying5
  a5 := Tryz.isAgg5
  z5 := Tryz.sizeOf5
  v5 := Tryz.zeroValue5
  t9 := Tryz.underlying9
  a9 := Tryz.isAgg9
  z9 := Tryz.sizeOf9
  v9 := Tryz.zeroValue9
  t22 := Tryz.underlying42
  a22 := Tryz.isAgg42
  z22 := Tryz.sizeOf42
  v22 := Tryz.zeroValue42
  t25 := Tryz.underlying81
  a25 := Tryz.isAgg81
  z25 := Tryz.sizeOf81
  v25 := Tryz.zeroValue81
  t39 := Tryz.underlying113
  a39 := Tryz.isAgg113
  z39 := Tryz.sizeOf113
  v39 := Tryz.zeroValue113
  t45 := Tryz.underlying119
  a45 := Tryz.isAgg119
  z45 := Tryz.sizeOf119
  v45 := Tryz.zeroValue119
  t46 := Tryz.underlying120
  a46 := Tryz.isAgg120
  z46 := Tryz.sizeOf120
  v46 := Tryz.zeroValue120
  t50 := Tryz.underlying95
  a50 := Tryz.isAgg95
  z50 := Tryz.sizeOf95
  v50 := Tryz.zeroValue95
  t53 := Tryz.underlying126
  a53 := Tryz.isAgg126
  z53 := Tryz.sizeOf126
  v53 := Tryz.zeroValue126
  t55 := Tryz.underlying51
  a55 := Tryz.isAgg51
  z55 := Tryz.sizeOf51
  v55 := Tryz.zeroValue51
  t66 := Tryz.underlying131
  a66 := Tryz.isAgg131
  z66 := Tryz.sizeOf131
  v66 := Tryz.zeroValue131
  t70 := Tryz.underlying135
  a70 := Tryz.isAgg135
  z70 := Tryz.sizeOf135
  v70 := Tryz.zeroValue135
  t76 := Tryz.underlying137
  a76 := Tryz.isAgg137
  z76 := Tryz.sizeOf137
  v76 := Tryz.zeroValue137
  t77 := Tryz.underlying138
  a77 := Tryz.isAgg138
  z77 := Tryz.sizeOf138
  v77 := Tryz.zeroValue138 }
end Go.Proofs

/- How two propositions stand: the program's order, the reference's. -/
namespace Go.Proofs.YtkmicfjcikilhaaGreatDoor
open Go.RowKit Go.Shelf Go.Sort


def pord (a b : PP) : Int := if Lib.compareBytes a.name.data.toList b.name.data.toList ≠ 0 then Lib.compareBytes a.name.data.toList b.name.data.toList else Lib.compareInt a.value b.value
def paheadB (a b : PP) : Bool := decide (pord a b < 0)
set_option maxHeartbeats 1000000 in
theorem lab_order (w : World) (a b : PP) :
    Calls Tryz.prog 31 #[.agg #[.string a.name, .int .i64 a.value], .agg #[.string b.name, .int .i64 b.value]] w fun e w' => e = .returned (.int .i64 (pord a b)) ∧ ∃ q os', w' = grow (w.drewN q) os' := by
  have hs := fun W' => Any.strings_Compare Tryz.strCmp a.name b.name W'
  change ∀ W', Calls Tryz.prog 60 _ _ _ at hs
  have hi := fun W' => AnyG.cmp_Compare_int Tryz.cmpInt a.value b.value W'
  change ∀ W', Calls Tryz.prog 59 _ _ _ at hi
  have HP := Lib.hid (show pord a b = if Lib.compareBytes a.name.data.toList b.name.data.toList ≠ 0 then Lib.compareBytes a.name.data.toList b.name.data.toList else Lib.compareInt a.value b.value from rfl)
  generalize Lib.compareInt a.value b.value = r at *
  generalize Lib.compareBytes a.name.data.toList b.name.data.toList = s at *
  by_cases h0 : s = 0
  · subst h0
    go_enter Tryz.func31, Tryz.ntmps31
    go_wp2_with (first | (go_at_call 60; refine (hs _).mono ?_; rintro e w' ⟨rfl, rfl⟩) | (go_at_call 59; refine (hi _).mono ?_; rintro e w' ⟨rfl, rfl⟩))
    go_ret
    exact ⟨by rw [HP.out]; rfl, 0, _, by simp only [alloc_eq_grow, grow_grow]; rfl⟩
  · go_enter Tryz.func31, Tryz.ntmps31
    go_wp2_with (first | (go_at_call 60; refine (hs _).mono ?_; rintro e w' ⟨rfl, rfl⟩) | (go_at_call 59; refine (hi _).mono ?_; rintro e w' ⟨rfl, rfl⟩))
    go_ret
    exact ⟨by rw [HP.out, if_pos h0]; rfl, 0, _, by simp only [alloc_eq_grow, grow_grow]; rfl⟩
end Go.Proofs.YtkmicfjcikilhaaGreatDoor

/- The order of propositions, in plain words: a strict total order. -/
namespace Go.Proofs.YtkmicfjcikilhaaGreatDoor
open Go.RowKit Go.Sort

theorem cmpB_neg : ∀ a b : List UInt8, Lib.compareBytes a b < 0 ↔ a < b
  | [], [] => by simp [Lib.compareBytes]
  | [], _ :: _ => by simp [Lib.compareBytes]
  | _ :: _, [] => by simp [Lib.compareBytes]
  | a :: x, b :: y => by
    unfold Lib.compareBytes
    rw [List.cons_lt_cons_iff]
    by_cases h : a < b
    · simp [h]
    · by_cases h2 : b < a
      · have : ¬ a = b := fun e => by subst e; exact h h2
        simp [h, h2, this]
      · have : a = b := UInt8.le_antisymm (UInt8.not_lt.1 h2) (UInt8.not_lt.1 h)
        subst this
        simp [cmpB_neg x y]
theorem cmpB_zero : ∀ a b : List UInt8, Lib.compareBytes a b = 0 ↔ a = b
  | [], [] => by simp [Lib.compareBytes]
  | [], _ :: _ => by simp [Lib.compareBytes]
  | _ :: _, [] => by simp [Lib.compareBytes]
  | a :: x, b :: y => by
    unfold Lib.compareBytes
    by_cases h : a < b
    · have : ¬ a = b := fun e => by subst e; exact absurd h (UInt8.lt_irrefl _)
      simp [h, this]
    · by_cases h2 : b < a
      · have : ¬ a = b := fun e => by subst e; exact h h2
        simp [h, h2, this]
      · have : a = b := UInt8.le_antisymm (UInt8.not_lt.1 h2) (UInt8.not_lt.1 h)
        subst this
        simp [cmpB_zero x y]

def plt (a b : PP) : Prop := a.name.data.toList < b.name.data.toList ∨ (a.name.data.toList = b.name.data.toList ∧ a.value < b.value)
theorem pord_neg (a b : PP) : pord a b < 0 ↔ plt a b := by
  unfold pord plt
  by_cases h : Lib.compareBytes a.name.data.toList b.name.data.toList = 0
  · have h' := (cmpB_zero _ _).1 h
    have h2 : ¬ a.name.data.toList < b.name.data.toList := by rw [h']; exact List.lt_irrefl _
    rw [if_neg (by omega)]
    constructor
    · intro hi
      refine .inr ⟨h', ?_⟩
      unfold Lib.compareInt at hi
      split at hi
      · assumption
      · split at hi <;> simp at hi
    · rintro (h3 | ⟨_, h3⟩)
      · exact absurd h3 h2
      · unfold Lib.compareInt; rw [if_pos h3]; decide
  · have h' : ¬ a.name.data.toList = b.name.data.toList := fun e => h ((cmpB_zero _ _).2 e)
    rw [if_pos h, cmpB_neg]
    constructor
    · exact .inl
    · rintro (h3 | ⟨h3, _⟩)
      · exact h3
      · exact absurd h3 h'
theorem pp_ext {a b : PP} (h : a.name.data.toList = b.name.data.toList) (h2 : a.value = b.value) : a = b := by
  obtain ⟨⟨⟨l⟩⟩, v⟩ := a
  obtain ⟨⟨⟨m⟩⟩, u⟩ := b
  simp at h h2
  subst h h2; rfl
theorem pord_zero (a b : PP) : pord a b = 0 ↔ a = b := by
  constructor
  · intro h
    unfold pord at h
    by_cases h0 : Lib.compareBytes a.name.data.toList b.name.data.toList = 0
    · rw [if_neg (by simpa using h0)] at h
      refine pp_ext ((cmpB_zero _ _).1 h0) ?_
      unfold Lib.compareInt at h
      split at h
      · simp at h
      · split at h
        · simp at h
        · omega
    · rw [if_pos h0] at h
      exact absurd h h0
  · rintro rfl
    unfold pord
    rw [(cmpB_zero _ _).2 rfl]
    simp [Lib.compareInt]
theorem plt_irrefl (a : PP) : ¬ plt a a := by
  unfold plt
  simp [List.lt_irrefl]
theorem plt_trans {a b c : PP} (h : plt a b) (h2 : plt b c) : plt a c := by
  unfold plt at *
  rcases h with h | ⟨h, h'⟩
  · rcases h2 with h2 | ⟨h2, _⟩
    · exact .inl (List.lt_trans h h2)
    · rw [h2] at h; exact .inl h
  · rw [h]
    rcases h2 with h2 | ⟨h2, h3⟩
    · exact .inl h2
    · exact .inr ⟨h2, by omega⟩
theorem plt_tri (a b : PP) : plt a b ∨ a = b ∨ plt b a := by
  by_cases h : a.name.data.toList = b.name.data.toList
  · by_cases h1 : a.value < b.value
    · exact .inl (.inr ⟨h, h1⟩)
    · by_cases h2 : b.value < a.value
      · exact .inr (.inr (.inr ⟨h.symm, h2⟩))
      · exact .inr (.inl (pp_ext h (by omega)))
  · by_cases h1 : a.name.data.toList < b.name.data.toList
    · exact .inl (.inl h1)
    · have h2 : b.name.data.toList ≤ a.name.data.toList := List.not_lt.1 h1
      rcases List.le_iff_lt_or_eq.1 h2 with h3 | h3
      · exact .inr (.inr (.inl h3))
      · exact absurd h3.symm h
theorem plt_asymm {a b : PP} (h : plt a b) : ¬ plt b a := fun h2 => plt_irrefl a (plt_trans h h2)
theorem ltOf_pord (a b : PP) : ltOf pord a b = true ↔ plt a b := by
  unfold ltOf
  rw [decide_eq_true_iff, pord_neg]
theorem ltOf_pord_f (a b : PP) : ltOf pord a b = false ↔ ¬ plt a b := by
  rw [← ltOf_pord]; simp
theorem pord_swo : SWO (ltOf pord) where
  irrefl x := (ltOf_pord_f x x).2 (plt_irrefl x)
  trans x y z h1 h2 := (ltOf_pord x z).2 (plt_trans ((ltOf_pord x y).1 h1) ((ltOf_pord y z).1 h2))
  ntrans x y z h1 h2 := (ltOf_pord_f x z).2 (by
    have h3 := (ltOf_pord_f x y).1 h1
    have h4 := (ltOf_pord_f y z).1 h2
    intro h
    rcases plt_tri x y with h5 | h5 | h5
    · exact h3 h5
    · subst h5; exact h4 h
    · exact h4 (plt_trans h5 h))
theorem pord_tot (x y : PP) (h : ltOf pord x y = false) (h2 : ltOf pord y x = false) : x = y := by
  rcases plt_tri x y with h3 | h3 | h3
  · exact absurd h3 ((ltOf_pord_f x y).1 h)
  · exact h3
  · exact absurd h3 ((ltOf_pord_f y x).1 h2)
theorem paheadB_iff (a b : PP) : paheadB a b = true ↔ plt a b := by
  unfold paheadB; rw [decide_eq_true_iff, pord_neg]
theorem pahead_less {a b : PP} (h : Op.bytesLess a.name.toList b.name.toList = true) : paheadB a b = true := by
  rw [paheadB_iff]
  rw [bytesLess_eq, decide_eq_true_iff, ByteArray.toList_eq, ByteArray.toList_eq] at h
  exact .inl h
theorem pahead_eq {a b : PP} (h : a.name.toList = b.name.toList) : paheadB a b = decide (a.value < b.value) := by
  rw [ByteArray.toList_eq, ByteArray.toList_eq] at h
  have h2 : ¬ a.name.data.toList < b.name.data.toList := by rw [h]; exact List.lt_irrefl _
  rw [Bool.eq_iff_iff, paheadB_iff, decide_eq_true_iff]
  unfold plt
  constructor
  · rintro (h3 | ⟨_, h3⟩)
    · exact absurd h3 h2
    · exact h3
  · exact fun h3 => .inr ⟨h, h3⟩
theorem pahead_no {a b : PP} (h : ¬ Op.bytesLess a.name.toList b.name.toList = true) (h2 : ¬ a.name.toList = b.name.toList) : paheadB a b = false := by
  rw [← Bool.not_eq_true, paheadB_iff]
  rw [bytesLess_eq, decide_eq_true_iff, ByteArray.toList_eq, ByteArray.toList_eq] at h
  rw [ByteArray.toList_eq, ByteArray.toList_eq] at h2
  rintro (h3 | ⟨h3, _⟩)
  · exact h h3
  · exact h2 h3
end Go.Proofs.YtkmicfjcikilhaaGreatDoor
