/- How a value stands to an atom's, how two propositions stand. -/
import Derived.Test.YtkmicfjcikilhaaDoorQLname
import Derived.Test.YtkmicfjcikilhaaDoorKA
import Derived.Shelf.SlSortCmp.NoneTotal
import Derived.Shelf.SlicesG.Cmp
import Derived.Shelf.Small.Strs
import Derived.Ground.SlgcProg
import Derived.Ground.SlsfProg
import Derived.Ground.NamesProg
import Derived.Test.YtkmicfjcikilhaaDoorProg
namespace Go.Proofs.YtkmicfjcikilhaaDoor
open Go.RowKit

structure PP where
  name : ByteArray
  value : Int
def pcs (p : PP) : List Value := [.string p.name, .int .i64 p.value]
theorem pcs_len (p : PP) : (pcs p).length = 2 := rfl

def meets (v op x : Int) : Bool :=
  if op = 0 then true else if op = 1 then v == x else if op = 2 then v != x else if op = 3 then decide (v < x) else if op = 4 then decide (v ≤ x) else if op = 5 then decide (x < v) else if op = 6 then decide (x ≤ v) else false

set_option maxHeartbeats 1000000 in
theorem lab_stands (w : World) (v op x : Int) :
    Calls Tryd.prog 97 #[.int .i64 v, .int .i64 op, .int .i64 x] w fun e w' => e = .returned (.bool (meets v op x)) ∧ w = w' := by
  by_cases h0 : op = 0
  · subst h0
    go_enter Tryd.func97, Tryd.ntmps97
    go_wp2
    all_goals (go_ret; exact ⟨rfl, rfl⟩)
  by_cases h1 : op = 1
  · subst h1
    go_enter Tryd.func97, Tryd.ntmps97
    go_wp2
    all_goals (go_ret; exact ⟨rfl, rfl⟩)
  by_cases h2 : op = 2
  · subst h2
    go_enter Tryd.func97, Tryd.ntmps97
    go_wp2
    all_goals (go_ret; exact ⟨rfl, rfl⟩)
  by_cases h3 : op = 3
  · subst h3
    go_enter Tryd.func97, Tryd.ntmps97
    go_wp2
    all_goals (go_ret; exact ⟨rfl, rfl⟩)
  by_cases h4 : op = 4
  · subst h4
    go_enter Tryd.func97, Tryd.ntmps97
    go_wp2
    all_goals (go_ret; exact ⟨rfl, rfl⟩)
  by_cases h5 : op = 5
  · subst h5
    go_enter Tryd.func97, Tryd.ntmps97
    go_wp2
    all_goals (go_ret; exact ⟨rfl, rfl⟩)
  by_cases h6 : op = 6
  · subst h6
    go_enter Tryd.func97, Tryd.ntmps97
    go_wp2
    all_goals (go_ret; exact ⟨by simp [meets], rfl⟩)
  have H := Lib.hid (show meets v op x = false by unfold meets; rw [if_neg h0, if_neg h1, if_neg h2, if_neg h3, if_neg h4, if_neg h5, if_neg h6])
  go_enter Tryd.func97, Tryd.ntmps97
  go_wp2
  all_goals (go_ret; exact ⟨ret1b H.out.symm, rfl⟩)
set_option maxHeartbeats 1000000 in
theorem ref_Meets (w : World) (v op x : Int) :
    Calls Tryd.prog 135 #[.int .i64 v, .int .i64 op, .int .i64 x] w fun e w' => e = .returned (.bool (meets v op x)) ∧ w = w' := by
  by_cases h0 : op = 0
  · subst h0
    go_enter Tryd.func135, Tryd.ntmps135
    go_wp2
    all_goals (go_ret; exact ⟨rfl, rfl⟩)
  by_cases h1 : op = 1
  · subst h1
    go_enter Tryd.func135, Tryd.ntmps135
    go_wp2
    all_goals (go_ret; exact ⟨rfl, rfl⟩)
  by_cases h2 : op = 2
  · subst h2
    go_enter Tryd.func135, Tryd.ntmps135
    go_wp2
    all_goals (go_ret; exact ⟨rfl, rfl⟩)
  by_cases h3 : op = 3
  · subst h3
    go_enter Tryd.func135, Tryd.ntmps135
    go_wp2
    all_goals (go_ret; exact ⟨rfl, rfl⟩)
  by_cases h4 : op = 4
  · subst h4
    go_enter Tryd.func135, Tryd.ntmps135
    go_wp2
    all_goals (go_ret; exact ⟨rfl, rfl⟩)
  by_cases h5 : op = 5
  · subst h5
    go_enter Tryd.func135, Tryd.ntmps135
    go_wp2
    all_goals (go_ret; exact ⟨rfl, rfl⟩)
  by_cases h6 : op = 6
  · subst h6
    go_enter Tryd.func135, Tryd.ntmps135
    go_wp2
    all_goals (go_ret; exact ⟨by simp [meets], rfl⟩)
  have H := Lib.hid (show meets v op x = false by unfold meets; rw [if_neg h0, if_neg h1, if_neg h2, if_neg h3, if_neg h4, if_neg h5, if_neg h6])
  go_enter Tryd.func135, Tryd.ntmps135
  go_wp2
  all_goals (go_ret; exact ⟨ret1b H.out.symm, rfl⟩)

end Go.Proofs.YtkmicfjcikilhaaDoor

/- The library contracts that these texts use, laid at this program in plain words (by the shelf's plain mode). -/
namespace Go.Proofs
open Go.Shelf
def Tryd.cmpInt_ren : Go.Shelf.Ren := ⟨fun | 5 => 93 | 7 => 130 | n => n, fun | 22 => 2 | 3 => 3 | 4 => 4 | n => n, fun | n => n⟩
theorem Tryd.cmpInt : Go.Proofs.SlLaysC2.n5 Tryd.prog Tryd.cmpInt_ren := {
  mixed := by kernel_rfl
  f5 := ⟨Tryd.f93.name, by decide, Tryd.func93.trans (congrArg some (by kernel_rfl))⟩
  f7 := ⟨Tryd.f130.name, by decide, Tryd.func130.trans (congrArg some (by kernel_rfl))⟩
  t3 := Tryd.underlying3
  a3 := Tryd.isAgg3
  z3 := Tryd.sizeOf3
  v3 := Tryd.zeroValue3
  t4 := Tryd.underlying4
  a4 := Tryd.isAgg4
  z4 := Tryd.sizeOf4
  v4 := Tryd.zeroValue4
  t22 := Tryd.underlying2
  a22 := Tryd.isAgg2
  z22 := Tryd.sizeOf2
  v22 := Tryd.zeroValue2 }
def Tryd.strCmp_ren : Go.Shelf.Ren := ⟨fun | 106 => 113 | 213 => 139 | 265 => 147 | n => n, fun | 9 => 9 | 3 => 3 | n => n, fun | n => n⟩
theorem Tryd.strCmp : Go.Proofs.Lays.n106 Tryd.prog Tryd.strCmp_ren := {
  mixed := by kernel_rfl
  f106 := Tryd.func113.trans (congrArg some (by kernel_rfl))
  f213 := Tryd.func139.trans (congrArg some (by kernel_rfl))
  f265 := Tryd.func147.trans (congrArg some (by kernel_rfl))
  t3 := Tryd.underlying3
  a3 := Tryd.isAgg3
  z3 := Tryd.sizeOf3
  v3 := Tryd.zeroValue3
  t9 := Tryd.underlying9
  a9 := Tryd.isAgg9
  z9 := Tryd.sizeOf9
  v9 := Tryd.zeroValue9 }
def Tryd.sortPP_ren : Go.Shelf.Ren := ⟨fun | 6 => 128 | 15 => 142 | 14 => 141 | 28 => 156 | 29 => 157 | 20 => 148 | 21 => 149 | 22 => 150 | 23 => 151 | 24 => 152 | 25 => 153 | 26 => 154 | 27 => 155 | 46 => 159 | 47 => 160 | 48 => 161 | 49 => 162 | 50 => 163 | 57 => 168 | n => n, fun | 22 => 53 | 24 => 68 | 25 => 117 | 3 => 3 | 39 => 168 | 0 => 0 | 53 => 190 | 55 => 93 | 4 => 4 | 46 => 184 | 45 => 183 | 50 => 131 | 5 => 5 | 9 => 9 | 66 => 192 | 70 => 196 | 76 => 202 | 77 => 203 | n => n, fun | n => n⟩
theorem Tryd.sortPP : Go.Proofs.SlLaysF0.n6 Tryd.prog Tryd.sortPP_ren := {
  mixed := by kernel_rfl
  f6 := ⟨Tryd.f128.name, by decide, Tryd.func128.trans (congrArg some (by kernel_rfl))⟩
  f14 := ⟨Tryd.f141.name, by decide, Tryd.func141.trans (congrArg some (by kernel_rfl))⟩
  f15 := Tryd.func142.trans (congrArg some (by kernel_rfl))
  f20 := ⟨Tryd.f148.name, by decide, Tryd.func148.trans (congrArg some (by kernel_rfl))⟩
  f21 := ⟨Tryd.f149.name, by decide, Tryd.func149.trans (congrArg some (by kernel_rfl))⟩
  f22 := ⟨Tryd.f150.name, by decide, Tryd.func150.trans (congrArg some (by kernel_rfl))⟩
  f23 := ⟨Tryd.f151.name, by decide, Tryd.func151.trans (congrArg some (by kernel_rfl))⟩
  f24 := ⟨Tryd.f152.name, by decide, Tryd.func152.trans (congrArg some (by kernel_rfl))⟩
  f25 := ⟨Tryd.f153.name, by decide, Tryd.func153.trans (congrArg some (by kernel_rfl))⟩
  f26 := ⟨Tryd.f154.name, by decide, Tryd.func154.trans (congrArg some (by kernel_rfl))⟩
  f27 := ⟨Tryd.f155.name, by decide, Tryd.func155.trans (congrArg some (by kernel_rfl))⟩
  f28 := Tryd.func156.trans (congrArg some (by kernel_rfl))
  f29 := Tryd.func157.trans (congrArg some (by kernel_rfl))
  f46 := ⟨Tryd.f159.name, by decide, Tryd.func159.trans (congrArg some (by kernel_rfl))⟩
  f47 := Tryd.func160.trans (congrArg some (by kernel_rfl))
  f48 := Tryd.func161.trans (congrArg some (by kernel_rfl))
  f49 := ⟨Tryd.f162.name, by decide, Tryd.func162.trans (congrArg some (by kernel_rfl))⟩
  f50 := ⟨Tryd.f163.name, by decide, Tryd.func163.trans (congrArg some (by kernel_rfl))⟩
  f57 := ⟨Tryd.f168.name, by decide, Tryd.func168.trans (congrArg some (by kernel_rfl))⟩
  t0 := Tryd.underlying0
  a0 := Tryd.isAgg0
  z0 := Tryd.sizeOf0
  v0 := Tryd.zeroValue0
  t3 := Tryd.underlying3
  a3 := Tryd.isAgg3
  z3 := Tryd.sizeOf3
  v3 := Tryd.zeroValue3
  t4 := Tryd.underlying4
  a4 := Tryd.isAgg4
  z4 := Tryd.sizeOf4
  v4 := Tryd.zeroValue4
  t5 := Tryd.underlying5
  a5 := Tryd.isAgg5
  z5 := Tryd.sizeOf5
  v5 := Tryd.zeroValue5
  t9 := Tryd.underlying9
  a9 := Tryd.isAgg9
  z9 := Tryd.sizeOf9
  v9 := Tryd.zeroValue9
  t22 := Tryd.underlying53
  a22 := Tryd.isAgg53
  z22 := Tryd.sizeOf53
  v22 := Tryd.zeroValue53
  t25 := Tryd.underlying117
  a25 := Tryd.isAgg117
  z25 := Tryd.sizeOf117
  v25 := Tryd.zeroValue117
  t39 := Tryd.underlying168
  a39 := Tryd.isAgg168
  z39 := Tryd.sizeOf168
  v39 := Tryd.zeroValue168
  t45 := Tryd.underlying183
  a45 := Tryd.isAgg183
  z45 := Tryd.sizeOf183
  v45 := Tryd.zeroValue183
  t46 := Tryd.underlying184
  a46 := Tryd.isAgg184
  z46 := Tryd.sizeOf184
  v46 := Tryd.zeroValue184
  t50 := Tryd.underlying131
  a50 := Tryd.isAgg131
  z50 := Tryd.sizeOf131
  v50 := Tryd.zeroValue131
  t53 := Tryd.underlying190
  a53 := Tryd.isAgg190
  z53 := Tryd.sizeOf190
  v53 := Tryd.zeroValue190
  t55 := Tryd.underlying93
  a55 := Tryd.isAgg93
  z55 := Tryd.sizeOf93
  v55 := Tryd.zeroValue93
  t66 := Tryd.underlying192
  a66 := Tryd.isAgg192
  z66 := Tryd.sizeOf192
  v66 := Tryd.zeroValue192
  t70 := Tryd.underlying196
  a70 := Tryd.isAgg196
  z70 := Tryd.sizeOf196
  v70 := Tryd.zeroValue196
  t76 := Tryd.underlying202
  a76 := Tryd.isAgg202
  z76 := Tryd.sizeOf202
  v76 := Tryd.zeroValue202
  t77 := Tryd.underlying203
  a77 := Tryd.isAgg203
  z77 := Tryd.sizeOf203
  v77 := Tryd.zeroValue203 }
end Go.Proofs

/- How two propositions stand: the program's order, the reference's. -/
namespace Go.Proofs.YtkmicfjcikilhaaDoor
open Go.RowKit Go.Shelf Go.Sort


def pord (a b : PP) : Int := if Lib.compareBytes a.name.data.toList b.name.data.toList ≠ 0 then Lib.compareBytes a.name.data.toList b.name.data.toList else Lib.compareInt a.value b.value
def paheadB (a b : PP) : Bool := decide (pord a b < 0)
set_option maxHeartbeats 1000000 in
theorem lab_order (w : World) (a b : PP) :
    Calls Tryd.prog 69 #[.agg #[.string a.name, .int .i64 a.value], .agg #[.string b.name, .int .i64 b.value]] w fun e w' => e = .returned (.int .i64 (pord a b)) ∧ ∃ q os', w' = grow (w.drewN q) os' := by
  have hs := fun W' => Any.strings_Compare Tryd.strCmp a.name b.name W'
  change ∀ W', Calls Tryd.prog 113 _ _ _ at hs
  have hi := fun W' => AnyG.cmp_Compare_int Tryd.cmpInt a.value b.value W'
  change ∀ W', Calls Tryd.prog 93 _ _ _ at hi
  have HP := Lib.hid (show pord a b = if Lib.compareBytes a.name.data.toList b.name.data.toList ≠ 0 then Lib.compareBytes a.name.data.toList b.name.data.toList else Lib.compareInt a.value b.value from rfl)
  generalize Lib.compareInt a.value b.value = r at *
  generalize Lib.compareBytes a.name.data.toList b.name.data.toList = s at *
  by_cases h0 : s = 0
  · subst h0
    go_enter Tryd.func69, Tryd.ntmps69
    go_wp2_with (first | (go_at_call 113; refine (hs _).mono ?_; rintro e w' ⟨rfl, rfl⟩) | (go_at_call 93; refine (hi _).mono ?_; rintro e w' ⟨rfl, rfl⟩))
    go_ret
    exact ⟨by rw [HP.out]; rfl, 0, _, by simp only [alloc_eq_grow, grow_grow]; rfl⟩
  · go_enter Tryd.func69, Tryd.ntmps69
    go_wp2_with (first | (go_at_call 113; refine (hs _).mono ?_; rintro e w' ⟨rfl, rfl⟩) | (go_at_call 93; refine (hi _).mono ?_; rintro e w' ⟨rfl, rfl⟩))
    go_ret
    exact ⟨by rw [HP.out, if_pos h0]; rfl, 0, _, by simp only [alloc_eq_grow, grow_grow]; rfl⟩
end Go.Proofs.YtkmicfjcikilhaaDoor

/- The order of propositions, in plain words: a strict total order. -/
namespace Go.Proofs.YtkmicfjcikilhaaDoor
open Go.RowKit Go.Sort

theorem cmpB_neg : ∀ a b : List UInt8, Lib.compareBytes a b < 0 ↔ a < b
  | [], [] => by simp [Lib.compareBytes]
  | [], _ :: _ => by simp [Lib.compareBytes]
  | _ :: _, [] => by simp [Lib.compareBytes]
  | a :: x, b :: y => by
    unfold Lib.compareBytes
    rw [List.cons_lt_cons_iff]
    by_cases h : a < b
    · simp [h]
    · by_cases h2 : b < a
      · have : ¬ a = b := fun e => by subst e; exact h h2
        simp [h, h2, this]
      · have : a = b := UInt8.le_antisymm (UInt8.not_lt.1 h2) (UInt8.not_lt.1 h)
        subst this
        simp [cmpB_neg x y]
theorem cmpB_zero : ∀ a b : List UInt8, Lib.compareBytes a b = 0 ↔ a = b
  | [], [] => by simp [Lib.compareBytes]
  | [], _ :: _ => by simp [Lib.compareBytes]
  | _ :: _, [] => by simp [Lib.compareBytes]
  | a :: x, b :: y => by
    unfold Lib.compareBytes
    by_cases h : a < b
    · have : ¬ a = b := fun e => by subst e; exact absurd h (UInt8.lt_irrefl _)
      simp [h, this]
    · by_cases h2 : b < a
      · have : ¬ a = b := fun e => by subst e; exact h h2
        simp [h, h2, this]
      · have : a = b := UInt8.le_antisymm (UInt8.not_lt.1 h2) (UInt8.not_lt.1 h)
        subst this
        simp [cmpB_zero x y]

def plt (a b : PP) : Prop := a.name.data.toList < b.name.data.toList ∨ (a.name.data.toList = b.name.data.toList ∧ a.value < b.value)
theorem pord_neg (a b : PP) : pord a b < 0 ↔ plt a b := by
  unfold pord plt
  by_cases h : Lib.compareBytes a.name.data.toList b.name.data.toList = 0
  · have h' := (cmpB_zero _ _).1 h
    have h2 : ¬ a.name.data.toList < b.name.data.toList := by rw [h']; exact List.lt_irrefl _
    rw [if_neg (by omega)]
    constructor
    · intro hi
      refine .inr ⟨h', ?_⟩
      unfold Lib.compareInt at hi
      split at hi
      · assumption
      · split at hi <;> simp at hi
    · rintro (h3 | ⟨_, h3⟩)
      · exact absurd h3 h2
      · unfold Lib.compareInt; rw [if_pos h3]; decide
  · have h' : ¬ a.name.data.toList = b.name.data.toList := fun e => h ((cmpB_zero _ _).2 e)
    rw [if_pos h, cmpB_neg]
    constructor
    · exact .inl
    · rintro (h3 | ⟨h3, _⟩)
      · exact h3
      · exact absurd h3 h'
theorem pp_ext {a b : PP} (h : a.name.data.toList = b.name.data.toList) (h2 : a.value = b.value) : a = b := by
  obtain ⟨⟨⟨l⟩⟩, v⟩ := a
  obtain ⟨⟨⟨m⟩⟩, u⟩ := b
  simp at h h2
  subst h h2; rfl
theorem pord_zero (a b : PP) : pord a b = 0 ↔ a = b := by
  constructor
  · intro h
    unfold pord at h
    by_cases h0 : Lib.compareBytes a.name.data.toList b.name.data.toList = 0
    · rw [if_neg (by simpa using h0)] at h
      refine pp_ext ((cmpB_zero _ _).1 h0) ?_
      unfold Lib.compareInt at h
      split at h
      · simp at h
      · split at h
        · simp at h
        · omega
    · rw [if_pos h0] at h
      exact absurd h h0
  · rintro rfl
    unfold pord
    rw [(cmpB_zero _ _).2 rfl]
    simp [Lib.compareInt]
theorem plt_irrefl (a : PP) : ¬ plt a a := by
  unfold plt
  simp [List.lt_irrefl]
theorem plt_trans {a b c : PP} (h : plt a b) (h2 : plt b c) : plt a c := by
  unfold plt at *
  rcases h with h | ⟨h, h'⟩
  · rcases h2 with h2 | ⟨h2, _⟩
    · exact .inl (List.lt_trans h h2)
    · rw [h2] at h; exact .inl h
  · rw [h]
    rcases h2 with h2 | ⟨h2, h3⟩
    · exact .inl h2
    · exact .inr ⟨h2, by omega⟩
theorem plt_tri (a b : PP) : plt a b ∨ a = b ∨ plt b a := by
  by_cases h : a.name.data.toList = b.name.data.toList
  · by_cases h1 : a.value < b.value
    · exact .inl (.inr ⟨h, h1⟩)
    · by_cases h2 : b.value < a.value
      · exact .inr (.inr (.inr ⟨h.symm, h2⟩))
      · exact .inr (.inl (pp_ext h (by omega)))
  · by_cases h1 : a.name.data.toList < b.name.data.toList
    · exact .inl (.inl h1)
    · have h2 : b.name.data.toList ≤ a.name.data.toList := List.not_lt.1 h1
      rcases List.le_iff_lt_or_eq.1 h2 with h3 | h3
      · exact .inr (.inr (.inl h3))
      · exact absurd h3.symm h
theorem plt_asymm {a b : PP} (h : plt a b) : ¬ plt b a := fun h2 => plt_irrefl a (plt_trans h h2)
theorem ltOf_pord (a b : PP) : ltOf pord a b = true ↔ plt a b := by
  unfold ltOf
  rw [decide_eq_true_iff, pord_neg]
theorem ltOf_pord_f (a b : PP) : ltOf pord a b = false ↔ ¬ plt a b := by
  rw [← ltOf_pord]; simp
theorem pord_swo : SWO (ltOf pord) where
  irrefl x := (ltOf_pord_f x x).2 (plt_irrefl x)
  trans x y z h1 h2 := (ltOf_pord x z).2 (plt_trans ((ltOf_pord x y).1 h1) ((ltOf_pord y z).1 h2))
  ntrans x y z h1 h2 := (ltOf_pord_f x z).2 (by
    have h3 := (ltOf_pord_f x y).1 h1
    have h4 := (ltOf_pord_f y z).1 h2
    intro h
    rcases plt_tri x y with h5 | h5 | h5
    · exact h3 h5
    · subst h5; exact h4 h
    · exact h4 (plt_trans h5 h))
theorem pord_tot (x y : PP) (h : ltOf pord x y = false) (h2 : ltOf pord y x = false) : x = y := by
  rcases plt_tri x y with h3 | h3 | h3
  · exact absurd h3 ((ltOf_pord_f x y).1 h)
  · exact h3
  · exact absurd h3 ((ltOf_pord_f y x).1 h2)
theorem paheadB_iff (a b : PP) : paheadB a b = true ↔ plt a b := by
  unfold paheadB; rw [decide_eq_true_iff, pord_neg]
theorem pahead_less {a b : PP} (h : Op.bytesLess a.name.toList b.name.toList = true) : paheadB a b = true := by
  rw [paheadB_iff]
  rw [bytesLess_eq, decide_eq_true_iff, ByteArray.toList_eq, ByteArray.toList_eq] at h
  exact .inl h
theorem pahead_eq {a b : PP} (h : a.name.toList = b.name.toList) : paheadB a b = decide (a.value < b.value) := by
  rw [ByteArray.toList_eq, ByteArray.toList_eq] at h
  have h2 : ¬ a.name.data.toList < b.name.data.toList := by rw [h]; exact List.lt_irrefl _
  rw [Bool.eq_iff_iff, paheadB_iff, decide_eq_true_iff]
  unfold plt
  constructor
  · rintro (h3 | ⟨_, h3⟩)
    · exact absurd h3 h2
    · exact h3
  · exact fun h3 => .inr ⟨h, h3⟩
theorem pahead_no {a b : PP} (h : ¬ Op.bytesLess a.name.toList b.name.toList = true) (h2 : ¬ a.name.toList = b.name.toList) : paheadB a b = false := by
  rw [← Bool.not_eq_true, paheadB_iff]
  rw [bytesLess_eq, decide_eq_true_iff, ByteArray.toList_eq, ByteArray.toList_eq] at h
  rw [ByteArray.toList_eq, ByteArray.toList_eq] at h2
  rintro (h3 | ⟨h3, _⟩)
  · exact h h3
  · exact h2 h3
end Go.Proofs.YtkmicfjcikilhaaDoor
