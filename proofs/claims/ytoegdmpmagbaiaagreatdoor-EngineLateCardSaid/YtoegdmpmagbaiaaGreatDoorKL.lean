/- How a value stands to an atom's, how two propositions stand. -/
import Derived.Test.YtoegdmpmagbaiaaGreatDoorQLname
import Derived.Test.YtoegdmpmagbaiaaGreatDoorKA
import Derived.Shelf.SlSortCmp.NoneTotal
import Derived.Shelf.SlicesG.Cmp
import Derived.Shelf.Small.Strs
import Derived.Ground.SlgcProg
import Derived.Ground.SlsfProg
import Derived.Ground.NamesProg
import Derived.Test.YtoegdmpmagbaiaaGreatDoorProg
namespace Go.Proofs.YtoegdmpmagbaiaaGreatDoor
open Go.RowKit

structure PP where
  name : ByteArray
  value : Int
def pcs (p : PP) : List Value := [.string p.name, .int .i64 p.value]
theorem pcs_len (p : PP) : (pcs p).length = 2 := rfl

def meets (v op x : Int) : Bool :=
  if op = 0 then true else if op = 1 then v == x else if op = 2 then v != x else if op = 3 then decide (v < x) else if op = 4 then decide (v ≤ x) else if op = 5 then decide (x < v) else if op = 6 then decide (x ≤ v) else false

set_option maxHeartbeats 1000000 in
theorem lab_stands (w : World) (v op x : Int) :
    Calls Tryz.prog 131 #[.int .i64 v, .int .i64 op, .int .i64 x] w fun e w' => e = .returned (.bool (meets v op x)) ∧ w = w' := by
  by_cases h0 : op = 0
  · subst h0
    go_enter Tryz.func131, Tryz.ntmps131
    go_wp2
    all_goals (go_ret; exact ⟨rfl, rfl⟩)
  by_cases h1 : op = 1
  · subst h1
    go_enter Tryz.func131, Tryz.ntmps131
    go_wp2
    all_goals (go_ret; exact ⟨rfl, rfl⟩)
  by_cases h2 : op = 2
  · subst h2
    go_enter Tryz.func131, Tryz.ntmps131
    go_wp2
    all_goals (go_ret; exact ⟨rfl, rfl⟩)
  by_cases h3 : op = 3
  · subst h3
    go_enter Tryz.func131, Tryz.ntmps131
    go_wp2
    all_goals (go_ret; exact ⟨rfl, rfl⟩)
  by_cases h4 : op = 4
  · subst h4
    go_enter Tryz.func131, Tryz.ntmps131
    go_wp2
    all_goals (go_ret; exact ⟨rfl, rfl⟩)
  by_cases h5 : op = 5
  · subst h5
    go_enter Tryz.func131, Tryz.ntmps131
    go_wp2
    all_goals (go_ret; exact ⟨rfl, rfl⟩)
  by_cases h6 : op = 6
  · subst h6
    go_enter Tryz.func131, Tryz.ntmps131
    go_wp2
    all_goals (go_ret; exact ⟨by simp [meets], rfl⟩)
  have H := Lib.hid (show meets v op x = false by unfold meets; rw [if_neg h0, if_neg h1, if_neg h2, if_neg h3, if_neg h4, if_neg h5, if_neg h6])
  go_enter Tryz.func131, Tryz.ntmps131
  go_wp2
  all_goals (go_ret; exact ⟨ret1b H.out.symm, rfl⟩)
set_option maxHeartbeats 1000000 in
theorem ref_Meets (w : World) (v op x : Int) :
    Calls Tryz.prog 155 #[.int .i64 v, .int .i64 op, .int .i64 x] w fun e w' => e = .returned (.bool (meets v op x)) ∧ w = w' := by
  by_cases h0 : op = 0
  · subst h0
    go_enter Tryz.func155, Tryz.ntmps155
    go_wp2
    all_goals (go_ret; exact ⟨rfl, rfl⟩)
  by_cases h1 : op = 1
  · subst h1
    go_enter Tryz.func155, Tryz.ntmps155
    go_wp2
    all_goals (go_ret; exact ⟨rfl, rfl⟩)
  by_cases h2 : op = 2
  · subst h2
    go_enter Tryz.func155, Tryz.ntmps155
    go_wp2
    all_goals (go_ret; exact ⟨rfl, rfl⟩)
  by_cases h3 : op = 3
  · subst h3
    go_enter Tryz.func155, Tryz.ntmps155
    go_wp2
    all_goals (go_ret; exact ⟨rfl, rfl⟩)
  by_cases h4 : op = 4
  · subst h4
    go_enter Tryz.func155, Tryz.ntmps155
    go_wp2
    all_goals (go_ret; exact ⟨rfl, rfl⟩)
  by_cases h5 : op = 5
  · subst h5
    go_enter Tryz.func155, Tryz.ntmps155
    go_wp2
    all_goals (go_ret; exact ⟨rfl, rfl⟩)
  by_cases h6 : op = 6
  · subst h6
    go_enter Tryz.func155, Tryz.ntmps155
    go_wp2
    all_goals (go_ret; exact ⟨by simp [meets], rfl⟩)
  have H := Lib.hid (show meets v op x = false by unfold meets; rw [if_neg h0, if_neg h1, if_neg h2, if_neg h3, if_neg h4, if_neg h5, if_neg h6])
  go_enter Tryz.func155, Tryz.ntmps155
  go_wp2
  all_goals (go_ret; exact ⟨ret1b H.out.symm, rfl⟩)

end Go.Proofs.YtoegdmpmagbaiaaGreatDoor

/- The library contracts that these texts use, laid at this program in plain words (by the shelf's plain mode). -/
namespace Go.Proofs
open Go.Shelf
def Tryz.cmpInt_ren : Go.Shelf.Ren := ⟨fun | 5 => 105 | 7 => 133 | n => n, fun | 22 => 2 | 3 => 3 | 4 => 4 | n => n, fun | n => n⟩
theorem Tryz.cmpInt : Go.Proofs.SlLaysC2.n5 Tryz.prog Tryz.cmpInt_ren := {
  mixed := by kernel_rfl
  f5 := ⟨Tryz.f105.name, by decide, Tryz.func105.trans (congrArg some (by kernel_rfl))⟩
  f7 := ⟨Tryz.f133.name, by decide, Tryz.func133.trans (congrArg some (by kernel_rfl))⟩
  t3 := Tryz.underlying3
  a3 := Tryz.isAgg3
  z3 := Tryz.sizeOf3
  v3 := Tryz.zeroValue3
  t4 := Tryz.underlying4
  a4 := Tryz.isAgg4
  z4 := Tryz.sizeOf4
  v4 := Tryz.zeroValue4
  t22 := Tryz.underlying2
  a22 := Tryz.isAgg2
  z22 := Tryz.sizeOf2
  v22 := Tryz.zeroValue2 }
def Tryz.strCmp_ren : Go.Shelf.Ren := ⟨fun | 106 => 106 | 213 => 134 | 265 => 159 | n => n, fun | 9 => 9 | 3 => 3 | n => n, fun | n => n⟩
theorem Tryz.strCmp : Go.Proofs.Lays.n106 Tryz.prog Tryz.strCmp_ren := {
  mixed := by kernel_rfl
  f106 := Tryz.func106.trans (congrArg some (by kernel_rfl))
  f213 := Tryz.func134.trans (congrArg some (by kernel_rfl))
  f265 := Tryz.func159.trans (congrArg some (by kernel_rfl))
  t3 := Tryz.underlying3
  a3 := Tryz.isAgg3
  z3 := Tryz.sizeOf3
  v3 := Tryz.zeroValue3
  t9 := Tryz.underlying9
  a9 := Tryz.isAgg9
  z9 := Tryz.sizeOf9
  v9 := Tryz.zeroValue9 }
def Tryz.sortPP_ren : Go.Shelf.Ren := ⟨fun | 6 => 61 | 15 => 108 | 14 => 107 | 28 => 143 | 29 => 144 | 20 => 135 | 21 => 136 | 22 => 137 | 23 => 138 | 24 => 139 | 25 => 140 | 26 => 141 | 27 => 142 | 46 => 160 | 47 => 161 | 48 => 162 | 49 => 163 | 50 => 164 | 57 => 177 | n => n, fun | 22 => 57 | 24 => 91 | 25 => 118 | 3 => 3 | 39 => 160 | 0 => 0 | 53 => 190 | 55 => 192 | 4 => 4 | 46 => 184 | 45 => 183 | 50 => 131 | 5 => 5 | 9 => 9 | 66 => 210 | 70 => 214 | 76 => 216 | 77 => 217 | n => n, fun | n => n⟩
theorem Tryz.sortPP : Go.Proofs.SlLaysF0.n6 Tryz.prog Tryz.sortPP_ren := {
  mixed := by kernel_rfl
  f6 := ⟨Tryz.f61.name, by decide, Tryz.func61.trans (congrArg some (by kernel_rfl))⟩
  f14 := ⟨Tryz.f107.name, by decide, Tryz.func107.trans (congrArg some (by kernel_rfl))⟩
  f15 := Tryz.func108.trans (congrArg some (by kernel_rfl))
  f20 := ⟨Tryz.f135.name, by decide, Tryz.func135.trans (congrArg some (by kernel_rfl))⟩
  f21 := ⟨Tryz.f136.name, by decide, Tryz.func136.trans (congrArg some (by kernel_rfl))⟩
  f22 := ⟨Tryz.f137.name, by decide, Tryz.func137.trans (congrArg some (by kernel_rfl))⟩
  f23 := ⟨Tryz.f138.name, by decide, Tryz.func138.trans (congrArg some (by kernel_rfl))⟩
  f24 := ⟨Tryz.f139.name, by decide, Tryz.func139.trans (congrArg some (by kernel_rfl))⟩
  f25 := ⟨Tryz.f140.name, by decide, Tryz.func140.trans (congrArg some (by kernel_rfl))⟩
  f26 := ⟨Tryz.f141.name, by decide, Tryz.func141.trans (congrArg some (by kernel_rfl))⟩
  f27 := ⟨Tryz.f142.name, by decide, Tryz.func142.trans (congrArg some (by kernel_rfl))⟩
  f28 := Tryz.func143.trans (congrArg some (by kernel_rfl))
  f29 := Tryz.func144.trans (congrArg some (by kernel_rfl))
  f46 := ⟨Tryz.f160.name, by decide, Tryz.func160.trans (congrArg some (by kernel_rfl))⟩
  f47 := Tryz.func161.trans (congrArg some (by kernel_rfl))
  f48 := Tryz.func162.trans (congrArg some (by kernel_rfl))
  f49 := ⟨Tryz.f163.name, by decide, Tryz.func163.trans (congrArg some (by kernel_rfl))⟩
  f50 := ⟨Tryz.f164.name, by decide, Tryz.func164.trans (congrArg some (by kernel_rfl))⟩
  f57 := ⟨Tryz.f177.name, by decide, Tryz.func177.trans (congrArg some (by kernel_rfl))⟩
  t0 := Tryz.underlying0
  a0 := Tryz.isAgg0
  z0 := Tryz.sizeOf0
  v0 := Tryz.zeroValue0
  t3 := Tryz.underlying3
  a3 := Tryz.isAgg3
  z3 := Tryz.sizeOf3
  v3 := Tryz.zeroValue3
  t4 := Tryz.underlying4
  a4 := Tryz.isAgg4
  z4 := Tryz.sizeOf4
  v4 := Tryz.zeroValue4
  t5 := Tryz.underlying5
  a5 := Tryz.isAgg5
  z5 := Tryz.sizeOf5
  v5 := Tryz.zeroValue5
  t9 := Tryz.underlying9
  a9 := Tryz.isAgg9
  z9 := Tryz.sizeOf9
  v9 := Tryz.zeroValue9
  t22 := Tryz.underlying57
  a22 := Tryz.isAgg57
  z22 := Tryz.sizeOf57
  v22 := Tryz.zeroValue57
  t25 := Tryz.underlying118
  a25 := Tryz.isAgg118
  z25 := Tryz.sizeOf118
  v25 := Tryz.zeroValue118
  t39 := Tryz.underlying160
  a39 := Tryz.isAgg160
  z39 := Tryz.sizeOf160
  v39 := Tryz.zeroValue160
  t45 := Tryz.underlying183
  a45 := Tryz.isAgg183
  z45 := Tryz.sizeOf183
  v45 := Tryz.zeroValue183
  t46 := Tryz.underlying184
  a46 := Tryz.isAgg184
  z46 := Tryz.sizeOf184
  v46 := Tryz.zeroValue184
  t50 := Tryz.underlying131
  a50 := Tryz.isAgg131
  z50 := Tryz.sizeOf131
  v50 := Tryz.zeroValue131
  t53 := Tryz.underlying190
  a53 := Tryz.isAgg190
  z53 := Tryz.sizeOf190
  v53 := Tryz.zeroValue190
  t55 := Tryz.underlying192
  a55 := Tryz.isAgg192
  z55 := Tryz.sizeOf192
  v55 := Tryz.zeroValue192
  t66 := Tryz.underlying210
  a66 := Tryz.isAgg210
  z66 := Tryz.sizeOf210
  v66 := Tryz.zeroValue210
  t70 := Tryz.underlying214
  a70 := Tryz.isAgg214
  z70 := Tryz.sizeOf214
  v70 := Tryz.zeroValue214
  t76 := Tryz.underlying216
  a76 := Tryz.isAgg216
  z76 := Tryz.sizeOf216
  v76 := Tryz.zeroValue216
  t77 := Tryz.underlying217
  a77 := Tryz.isAgg217
  z77 := Tryz.sizeOf217
  v77 := Tryz.zeroValue217 }
end Go.Proofs

/- How two propositions stand: the program's order, the reference's. -/
namespace Go.Proofs.YtoegdmpmagbaiaaGreatDoor
open Go.RowKit Go.Shelf Go.Sort


def pord (a b : PP) : Int := if Lib.compareBytes a.name.data.toList b.name.data.toList ≠ 0 then Lib.compareBytes a.name.data.toList b.name.data.toList else Lib.compareInt a.value b.value
def paheadB (a b : PP) : Bool := decide (pord a b < 0)
set_option maxHeartbeats 1000000 in
theorem lab_order (w : World) (a b : PP) :
    Calls Tryz.prog 59 #[.agg #[.string a.name, .int .i64 a.value], .agg #[.string b.name, .int .i64 b.value]] w fun e w' => e = .returned (.int .i64 (pord a b)) ∧ ∃ q os', w' = grow (w.drewN q) os' := by
  have hs := fun W' => Any.strings_Compare Tryz.strCmp a.name b.name W'
  change ∀ W', Calls Tryz.prog 106 _ _ _ at hs
  have hi := fun W' => AnyG.cmp_Compare_int Tryz.cmpInt a.value b.value W'
  change ∀ W', Calls Tryz.prog 105 _ _ _ at hi
  have HP := Lib.hid (show pord a b = if Lib.compareBytes a.name.data.toList b.name.data.toList ≠ 0 then Lib.compareBytes a.name.data.toList b.name.data.toList else Lib.compareInt a.value b.value from rfl)
  generalize Lib.compareInt a.value b.value = r at *
  generalize Lib.compareBytes a.name.data.toList b.name.data.toList = s at *
  by_cases h0 : s = 0
  · subst h0
    go_enter Tryz.func59, Tryz.ntmps59
    go_wp2_with (first | (go_at_call 106; refine (hs _).mono ?_; rintro e w' ⟨rfl, rfl⟩) | (go_at_call 105; refine (hi _).mono ?_; rintro e w' ⟨rfl, rfl⟩))
    go_ret
    exact ⟨by rw [HP.out]; rfl, 0, _, by simp only [alloc_eq_grow, grow_grow]; rfl⟩
  · go_enter Tryz.func59, Tryz.ntmps59
    go_wp2_with (first | (go_at_call 106; refine (hs _).mono ?_; rintro e w' ⟨rfl, rfl⟩) | (go_at_call 105; refine (hi _).mono ?_; rintro e w' ⟨rfl, rfl⟩))
    go_ret
    exact ⟨by rw [HP.out, if_pos h0]; rfl, 0, _, by simp only [alloc_eq_grow, grow_grow]; rfl⟩
end Go.Proofs.YtoegdmpmagbaiaaGreatDoor

/- The order of propositions, in plain words: a strict total order. -/
namespace Go.Proofs.YtoegdmpmagbaiaaGreatDoor
open Go.RowKit Go.Sort

theorem cmpB_neg : ∀ a b : List UInt8, Lib.compareBytes a b < 0 ↔ a < b
  | [], [] => by simp [Lib.compareBytes]
  | [], _ :: _ => by simp [Lib.compareBytes]
  | _ :: _, [] => by simp [Lib.compareBytes]
  | a :: x, b :: y => by
    unfold Lib.compareBytes
    rw [List.cons_lt_cons_iff]
    by_cases h : a < b
    · simp [h]
    · by_cases h2 : b < a
      · have : ¬ a = b := fun e => by subst e; exact h h2
        simp [h, h2, this]
      · have : a = b := UInt8.le_antisymm (UInt8.not_lt.1 h2) (UInt8.not_lt.1 h)
        subst this
        simp [cmpB_neg x y]
theorem cmpB_zero : ∀ a b : List UInt8, Lib.compareBytes a b = 0 ↔ a = b
  | [], [] => by simp [Lib.compareBytes]
  | [], _ :: _ => by simp [Lib.compareBytes]
  | _ :: _, [] => by simp [Lib.compareBytes]
  | a :: x, b :: y => by
    unfold Lib.compareBytes
    by_cases h : a < b
    · have : ¬ a = b := fun e => by subst e; exact absurd h (UInt8.lt_irrefl _)
      simp [h, this]
    · by_cases h2 : b < a
      · have : ¬ a = b := fun e => by subst e; exact h h2
        simp [h, h2, this]
      · have : a = b := UInt8.le_antisymm (UInt8.not_lt.1 h2) (UInt8.not_lt.1 h)
        subst this
        simp [cmpB_zero x y]

def plt (a b : PP) : Prop := a.name.data.toList < b.name.data.toList ∨ (a.name.data.toList = b.name.data.toList ∧ a.value < b.value)
theorem pord_neg (a b : PP) : pord a b < 0 ↔ plt a b := by
  unfold pord plt
  by_cases h : Lib.compareBytes a.name.data.toList b.name.data.toList = 0
  · have h' := (cmpB_zero _ _).1 h
    have h2 : ¬ a.name.data.toList < b.name.data.toList := by rw [h']; exact List.lt_irrefl _
    rw [if_neg (by omega)]
    constructor
    · intro hi
      refine .inr ⟨h', ?_⟩
      unfold Lib.compareInt at hi
      split at hi
      · assumption
      · split at hi <;> simp at hi
    · rintro (h3 | ⟨_, h3⟩)
      · exact absurd h3 h2
      · unfold Lib.compareInt; rw [if_pos h3]; decide
  · have h' : ¬ a.name.data.toList = b.name.data.toList := fun e => h ((cmpB_zero _ _).2 e)
    rw [if_pos h, cmpB_neg]
    constructor
    · exact .inl
    · rintro (h3 | ⟨h3, _⟩)
      · exact h3
      · exact absurd h3 h'
theorem pp_ext {a b : PP} (h : a.name.data.toList = b.name.data.toList) (h2 : a.value = b.value) : a = b := by
  obtain ⟨⟨⟨l⟩⟩, v⟩ := a
  obtain ⟨⟨⟨m⟩⟩, u⟩ := b
  simp at h h2
  subst h h2; rfl
theorem pord_zero (a b : PP) : pord a b = 0 ↔ a = b := by
  constructor
  · intro h
    unfold pord at h
    by_cases h0 : Lib.compareBytes a.name.data.toList b.name.data.toList = 0
    · rw [if_neg (by simpa using h0)] at h
      refine pp_ext ((cmpB_zero _ _).1 h0) ?_
      unfold Lib.compareInt at h
      split at h
      · simp at h
      · split at h
        · simp at h
        · omega
    · rw [if_pos h0] at h
      exact absurd h h0
  · rintro rfl
    unfold pord
    rw [(cmpB_zero _ _).2 rfl]
    simp [Lib.compareInt]
theorem plt_irrefl (a : PP) : ¬ plt a a := by
  unfold plt
  simp [List.lt_irrefl]
theorem plt_trans {a b c : PP} (h : plt a b) (h2 : plt b c) : plt a c := by
  unfold plt at *
  rcases h with h | ⟨h, h'⟩
  · rcases h2 with h2 | ⟨h2, _⟩
    · exact .inl (List.lt_trans h h2)
    · rw [h2] at h; exact .inl h
  · rw [h]
    rcases h2 with h2 | ⟨h2, h3⟩
    · exact .inl h2
    · exact .inr ⟨h2, by omega⟩
theorem plt_tri (a b : PP) : plt a b ∨ a = b ∨ plt b a := by
  by_cases h : a.name.data.toList = b.name.data.toList
  · by_cases h1 : a.value < b.value
    · exact .inl (.inr ⟨h, h1⟩)
    · by_cases h2 : b.value < a.value
      · exact .inr (.inr (.inr ⟨h.symm, h2⟩))
      · exact .inr (.inl (pp_ext h (by omega)))
  · by_cases h1 : a.name.data.toList < b.name.data.toList
    · exact .inl (.inl h1)
    · have h2 : b.name.data.toList ≤ a.name.data.toList := List.not_lt.1 h1
      rcases List.le_iff_lt_or_eq.1 h2 with h3 | h3
      · exact .inr (.inr (.inl h3))
      · exact absurd h3.symm h
theorem plt_asymm {a b : PP} (h : plt a b) : ¬ plt b a := fun h2 => plt_irrefl a (plt_trans h h2)
theorem ltOf_pord (a b : PP) : ltOf pord a b = true ↔ plt a b := by
  unfold ltOf
  rw [decide_eq_true_iff, pord_neg]
theorem ltOf_pord_f (a b : PP) : ltOf pord a b = false ↔ ¬ plt a b := by
  rw [← ltOf_pord]; simp
theorem pord_swo : SWO (ltOf pord) where
  irrefl x := (ltOf_pord_f x x).2 (plt_irrefl x)
  trans x y z h1 h2 := (ltOf_pord x z).2 (plt_trans ((ltOf_pord x y).1 h1) ((ltOf_pord y z).1 h2))
  ntrans x y z h1 h2 := (ltOf_pord_f x z).2 (by
    have h3 := (ltOf_pord_f x y).1 h1
    have h4 := (ltOf_pord_f y z).1 h2
    intro h
    rcases plt_tri x y with h5 | h5 | h5
    · exact h3 h5
    · subst h5; exact h4 h
    · exact h4 (plt_trans h5 h))
theorem pord_tot (x y : PP) (h : ltOf pord x y = false) (h2 : ltOf pord y x = false) : x = y := by
  rcases plt_tri x y with h3 | h3 | h3
  · exact absurd h3 ((ltOf_pord_f x y).1 h)
  · exact h3
  · exact absurd h3 ((ltOf_pord_f y x).1 h2)
theorem paheadB_iff (a b : PP) : paheadB a b = true ↔ plt a b := by
  unfold paheadB; rw [decide_eq_true_iff, pord_neg]
theorem pahead_less {a b : PP} (h : Op.bytesLess a.name.toList b.name.toList = true) : paheadB a b = true := by
  rw [paheadB_iff]
  rw [bytesLess_eq, decide_eq_true_iff, ByteArray.toList_eq, ByteArray.toList_eq] at h
  exact .inl h
theorem pahead_eq {a b : PP} (h : a.name.toList = b.name.toList) : paheadB a b = decide (a.value < b.value) := by
  rw [ByteArray.toList_eq, ByteArray.toList_eq] at h
  have h2 : ¬ a.name.data.toList < b.name.data.toList := by rw [h]; exact List.lt_irrefl _
  rw [Bool.eq_iff_iff, paheadB_iff, decide_eq_true_iff]
  unfold plt
  constructor
  · rintro (h3 | ⟨_, h3⟩)
    · exact absurd h3 h2
    · exact h3
  · exact fun h3 => .inr ⟨h, h3⟩
theorem pahead_no {a b : PP} (h : ¬ Op.bytesLess a.name.toList b.name.toList = true) (h2 : ¬ a.name.toList = b.name.toList) : paheadB a b = false := by
  rw [← Bool.not_eq_true, paheadB_iff]
  rw [bytesLess_eq, decide_eq_true_iff, ByteArray.toList_eq, ByteArray.toList_eq] at h
  rw [ByteArray.toList_eq, ByteArray.toList_eq] at h2
  rintro (h3 | ⟨h3, _⟩)
  · exact h h3
  · exact h2 h3
end Go.Proofs.YtoegdmpmagbaiaaGreatDoor
