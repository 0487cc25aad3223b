/- How a value stands to an atom's, how two propositions stand. -/
import Derived.Test.YtidhlfcmjpnhgaaGreatDoorQLname
import Derived.Test.YtidhlfcmjpnhgaaGreatDoorSA
import Derived.Shelf.SlSortCmp.NoneTotal
import Derived.Shelf.SlicesG.Cmp
import Derived.Shelf.Small.Strs
import Derived.Ground.SlgcProg
import Derived.Ground.SlsfProg
import Derived.Ground.NamesProg
import Derived.Test.YtidhlfcmjpnhgaaGreatDoorProg
import Derived.Laws.StructEq
import Derived.Lib.SliceRun
import Derived.Lib.SlicesCompact
namespace Go.Proofs.YtidhlfcmjpnhgaaGreatDoor
open Go.RowKit

structure PP where
  name : ByteArray
  value : Int
def pcs (p : PP) : List Value := [.string p.name, .int .i64 p.value]
theorem pcs_len (p : PP) : (pcs p).length = 2 := rfl

def meets (v op x : Int) : Bool :=
  if op = 0 then true else if op = 1 then v == x else if op = 2 then v != x else if op = 3 then decide (v < x) else if op = 4 then decide (v ≤ x) else if op = 5 then decide (x < v) else if op = 6 then decide (x ≤ v) else false


end Go.Proofs.YtidhlfcmjpnhgaaGreatDoor

/- The library contracts that these texts use, laid at this program in plain words (by the shelf's plain mode). -/
namespace Go.Proofs
open Go.Shelf
def Tryz.cmpInt_ren : Go.Shelf.Ren := ⟨fun | 5 => 72 | 7 => 91 | n => n, fun | 22 => 2 | 3 => 3 | 4 => 4 | n => n, fun | n => n⟩
theorem Tryz.cmpInt : Go.Proofs.SlLaysC2.n5 Tryz.prog Tryz.cmpInt_ren := {
  mixed := by kernel_rfl
  f5 := ⟨Tryz.f72.name, by decide, Tryz.func72.trans (congrArg some (by kernel_rfl))⟩
  f7 := ⟨Tryz.f91.name, by decide, Tryz.func91.trans (congrArg some (by kernel_rfl))⟩
  t3 := Tryz.underlying3
  a3 := Tryz.isAgg3
  z3 := Tryz.sizeOf3
  v3 := Tryz.zeroValue3
  t4 := Tryz.underlying4
  a4 := Tryz.isAgg4
  z4 := Tryz.sizeOf4
  v4 := Tryz.zeroValue4
  t22 := Tryz.underlying2
  a22 := Tryz.isAgg2
  z22 := Tryz.sizeOf2
  v22 := Tryz.zeroValue2 }
def Tryz.strCmp_ren : Go.Shelf.Ren := ⟨fun | 106 => 71 | 213 => 90 | 265 => 120 | n => n, fun | 9 => 9 | 3 => 3 | n => n, fun | n => n⟩
theorem Tryz.strCmp : Go.Proofs.Lays.n106 Tryz.prog Tryz.strCmp_ren := {
  mixed := by kernel_rfl
  f106 := Tryz.func71.trans (congrArg some (by kernel_rfl))
  f213 := Tryz.func90.trans (congrArg some (by kernel_rfl))
  f265 := Tryz.func120.trans (congrArg some (by kernel_rfl))
  t3 := Tryz.underlying3
  a3 := Tryz.isAgg3
  z3 := Tryz.sizeOf3
  v3 := Tryz.zeroValue3
  t9 := Tryz.underlying9
  a9 := Tryz.isAgg9
  z9 := Tryz.sizeOf9
  v9 := Tryz.zeroValue9 }
def Tryz.sortPP_ren : Go.Shelf.Ren := ⟨fun | 6 => 55 | 15 => 76 | 14 => 75 | 28 => 102 | 29 => 92 | 20 => 94 | 21 => 95 | 22 => 96 | 23 => 97 | 24 => 98 | 25 => 99 | 26 => 100 | 27 => 101 | 46 => 121 | 47 => 122 | 48 => 123 | 49 => 124 | 50 => 125 | 57 => 132 | n => n, fun | 22 => 37 | 24 => 41 | 25 => 97 | 3 => 3 | 39 => 101 | 0 => 0 | 53 => 103 | 55 => 36 | 4 => 4 | 46 => 142 | 45 => 141 | 50 => 146 | 5 => 5 | 9 => 9 | 66 => 161 | 70 => 165 | 76 => 178 | 77 => 179 | n => n, fun | n => n⟩
theorem Tryz.sortPP : Go.Proofs.SlLaysF0.n6 Tryz.prog Tryz.sortPP_ren := {
  mixed := by kernel_rfl
  f6 := ⟨Tryz.f55.name, by decide, Tryz.func55.trans (congrArg some (by kernel_rfl))⟩
  f14 := ⟨Tryz.f75.name, by decide, Tryz.func75.trans (congrArg some (by kernel_rfl))⟩
  f15 := Tryz.func76.trans (congrArg some (by kernel_rfl))
  f20 := ⟨Tryz.f94.name, by decide, Tryz.func94.trans (congrArg some (by kernel_rfl))⟩
  f21 := ⟨Tryz.f95.name, by decide, Tryz.func95.trans (congrArg some (by kernel_rfl))⟩
  f22 := ⟨Tryz.f96.name, by decide, Tryz.func96.trans (congrArg some (by kernel_rfl))⟩
  f23 := ⟨Tryz.f97.name, by decide, Tryz.func97.trans (congrArg some (by kernel_rfl))⟩
  f24 := ⟨Tryz.f98.name, by decide, Tryz.func98.trans (congrArg some (by kernel_rfl))⟩
  f25 := ⟨Tryz.f99.name, by decide, Tryz.func99.trans (congrArg some (by kernel_rfl))⟩
  f26 := ⟨Tryz.f100.name, by decide, Tryz.func100.trans (congrArg some (by kernel_rfl))⟩
  f27 := ⟨Tryz.f101.name, by decide, Tryz.func101.trans (congrArg some (by kernel_rfl))⟩
  f28 := Tryz.func102.trans (congrArg some (by kernel_rfl))
  f29 := Tryz.func92.trans (congrArg some (by kernel_rfl))
  f46 := ⟨Tryz.f121.name, by decide, Tryz.func121.trans (congrArg some (by kernel_rfl))⟩
  f47 := Tryz.func122.trans (congrArg some (by kernel_rfl))
  f48 := Tryz.func123.trans (congrArg some (by kernel_rfl))
  f49 := ⟨Tryz.f124.name, by decide, Tryz.func124.trans (congrArg some (by kernel_rfl))⟩
  f50 := ⟨Tryz.f125.name, by decide, Tryz.func125.trans (congrArg some (by kernel_rfl))⟩
  f57 := ⟨Tryz.f132.name, by decide, Tryz.func132.trans (congrArg some (by kernel_rfl))⟩
  t0 := Tryz.underlying0
  a0 := Tryz.isAgg0
  z0 := Tryz.sizeOf0
  v0 := Tryz.zeroValue0
  t3 := Tryz.underlying3
  a3 := Tryz.isAgg3
  z3 := Tryz.sizeOf3
  v3 := Tryz.zeroValue3
  t4 := Tryz.underlying4
  a4 := Tryz.isAgg4
  z4 := Tryz.sizeOf4
  v4 := Tryz.zeroValue4
  t5 := Tryz.underlying5
  a5 := Tryz.isAgg5
  z5 := Tryz.sizeOf5
  v5 := Tryz.zeroValue5
  t9 := Tryz.underlying9
  a9 := Tryz.isAgg9
  z9 := Tryz.sizeOf9
  v9 := Tryz.zeroValue9
  t22 := Tryz.underlying37
  a22 := Tryz.isAgg37
  z22 := Tryz.sizeOf37
  v22 := Tryz.zeroValue37
  t25 := Tryz.underlying97
  a25 := Tryz.isAgg97
  z25 := Tryz.sizeOf97
  v25 := Tryz.zeroValue97
  t39 := Tryz.underlying101
  a39 := Tryz.isAgg101
  z39 := Tryz.sizeOf101
  v39 := Tryz.zeroValue101
  t45 := Tryz.underlying141
  a45 := Tryz.isAgg141
  z45 := Tryz.sizeOf141
  v45 := Tryz.zeroValue141
  t46 := Tryz.underlying142
  a46 := Tryz.isAgg142
  z46 := Tryz.sizeOf142
  v46 := Tryz.zeroValue142
  t50 := Tryz.underlying146
  a50 := Tryz.isAgg146
  z50 := Tryz.sizeOf146
  v50 := Tryz.zeroValue146
  t53 := Tryz.underlying103
  a53 := Tryz.isAgg103
  z53 := Tryz.sizeOf103
  v53 := Tryz.zeroValue103
  t55 := Tryz.underlying36
  a55 := Tryz.isAgg36
  z55 := Tryz.sizeOf36
  v55 := Tryz.zeroValue36
  t66 := Tryz.underlying161
  a66 := Tryz.isAgg161
  z66 := Tryz.sizeOf161
  v66 := Tryz.zeroValue161
  t70 := Tryz.underlying165
  a70 := Tryz.isAgg165
  z70 := Tryz.sizeOf165
  v70 := Tryz.zeroValue165
  t76 := Tryz.underlying178
  a76 := Tryz.isAgg178
  z76 := Tryz.sizeOf178
  v76 := Tryz.zeroValue178
  t77 := Tryz.underlying179
  a77 := Tryz.isAgg179
  z77 := Tryz.sizeOf179
  v77 := Tryz.zeroValue179 }
end Go.Proofs

/- How two propositions stand: the program's order, the reference's. -/
namespace Go.Proofs.YtidhlfcmjpnhgaaGreatDoor
open Go.RowKit Go.Shelf Go.Sort


def pord (a b : PP) : Int := if Lib.compareBytes a.name.data.toList b.name.data.toList ≠ 0 then Lib.compareBytes a.name.data.toList b.name.data.toList else Lib.compareInt a.value b.value
def paheadB (a b : PP) : Bool := decide (pord a b < 0)
set_option maxHeartbeats 1000000 in
theorem lab_order (w : World) (a b : PP) :
    Calls Tryz.prog 48 #[.agg #[.string a.name, .int .i64 a.value], .agg #[.string b.name, .int .i64 b.value]] w fun e w' => e = .returned (.int .i64 (pord a b)) ∧ ∃ q os', w' = grow (w.drewN q) os' := by
  have hs := fun W' => Any.strings_Compare Tryz.strCmp a.name b.name W'
  change ∀ W', Calls Tryz.prog 71 _ _ _ at hs
  have hi := fun W' => AnyG.cmp_Compare_int Tryz.cmpInt a.value b.value W'
  change ∀ W', Calls Tryz.prog 72 _ _ _ at hi
  have HP := Lib.hid (show pord a b = if Lib.compareBytes a.name.data.toList b.name.data.toList ≠ 0 then Lib.compareBytes a.name.data.toList b.name.data.toList else Lib.compareInt a.value b.value from rfl)
  generalize Lib.compareInt a.value b.value = r at *
  generalize Lib.compareBytes a.name.data.toList b.name.data.toList = s at *
  by_cases h0 : s = 0
  · subst h0
    go_enter Tryz.func48, Tryz.ntmps48
    go_wp2_with (first | (go_at_call 71; refine (hs _).mono ?_; rintro e w' ⟨rfl, rfl⟩) | (go_at_call 72; refine (hi _).mono ?_; rintro e w' ⟨rfl, rfl⟩))
    go_ret
    exact ⟨by rw [HP.out]; rfl, 0, _, by simp only [alloc_eq_grow, grow_grow]; rfl⟩
  · go_enter Tryz.func48, Tryz.ntmps48
    go_wp2_with (first | (go_at_call 71; refine (hs _).mono ?_; rintro e w' ⟨rfl, rfl⟩) | (go_at_call 72; refine (hi _).mono ?_; rintro e w' ⟨rfl, rfl⟩))
    go_ret
    exact ⟨by rw [HP.out, if_pos h0]; rfl, 0, _, by simp only [alloc_eq_grow, grow_grow]; rfl⟩
end Go.Proofs.YtidhlfcmjpnhgaaGreatDoor

/- The order of propositions, in plain words: a strict total order. -/
namespace Go.Proofs.YtidhlfcmjpnhgaaGreatDoor
open Go.RowKit Go.Sort

theorem cmpB_neg : ∀ a b : List UInt8, Lib.compareBytes a b < 0 ↔ a < b
  | [], [] => by simp [Lib.compareBytes]
  | [], _ :: _ => by simp [Lib.compareBytes]
  | _ :: _, [] => by simp [Lib.compareBytes]
  | a :: x, b :: y => by
    unfold Lib.compareBytes
    rw [List.cons_lt_cons_iff]
    by_cases h : a < b
    · simp [h]
    · by_cases h2 : b < a
      · have : ¬ a = b := fun e => by subst e; exact h h2
        simp [h, h2, this]
      · have : a = b := UInt8.le_antisymm (UInt8.not_lt.1 h2) (UInt8.not_lt.1 h)
        subst this
        simp [cmpB_neg x y]
theorem cmpB_zero : ∀ a b : List UInt8, Lib.compareBytes a b = 0 ↔ a = b
  | [], [] => by simp [Lib.compareBytes]
  | [], _ :: _ => by simp [Lib.compareBytes]
  | _ :: _, [] => by simp [Lib.compareBytes]
  | a :: x, b :: y => by
    unfold Lib.compareBytes
    by_cases h : a < b
    · have : ¬ a = b := fun e => by subst e; exact absurd h (UInt8.lt_irrefl _)
      simp [h, this]
    · by_cases h2 : b < a
      · have : ¬ a = b := fun e => by subst e; exact h h2
        simp [h, h2, this]
      · have : a = b := UInt8.le_antisymm (UInt8.not_lt.1 h2) (UInt8.not_lt.1 h)
        subst this
        simp [cmpB_zero x y]

def plt (a b : PP) : Prop := a.name.data.toList < b.name.data.toList ∨ (a.name.data.toList = b.name.data.toList ∧ a.value < b.value)
theorem pord_neg (a b : PP) : pord a b < 0 ↔ plt a b := by
  unfold pord plt
  by_cases h : Lib.compareBytes a.name.data.toList b.name.data.toList = 0
  · have h' := (cmpB_zero _ _).1 h
    have h2 : ¬ a.name.data.toList < b.name.data.toList := by rw [h']; exact List.lt_irrefl _
    rw [if_neg (by omega)]
    constructor
    · intro hi
      refine .inr ⟨h', ?_⟩
      unfold Lib.compareInt at hi
      split at hi
      · assumption
      · split at hi <;> simp at hi
    · rintro (h3 | ⟨_, h3⟩)
      · exact absurd h3 h2
      · unfold Lib.compareInt; rw [if_pos h3]; decide
  · have h' : ¬ a.name.data.toList = b.name.data.toList := fun e => h ((cmpB_zero _ _).2 e)
    rw [if_pos h, cmpB_neg]
    constructor
    · exact .inl
    · rintro (h3 | ⟨h3, _⟩)
      · exact h3
      · exact absurd h3 h'
theorem pp_ext {a b : PP} (h : a.name.data.toList = b.name.data.toList) (h2 : a.value = b.value) : a = b := by
  obtain ⟨⟨⟨l⟩⟩, v⟩ := a
  obtain ⟨⟨⟨m⟩⟩, u⟩ := b
  simp at h h2
  subst h h2; rfl
theorem pord_zero (a b : PP) : pord a b = 0 ↔ a = b := by
  constructor
  · intro h
    unfold pord at h
    by_cases h0 : Lib.compareBytes a.name.data.toList b.name.data.toList = 0
    · rw [if_neg (by simpa using h0)] at h
      refine pp_ext ((cmpB_zero _ _).1 h0) ?_
      unfold Lib.compareInt at h
      split at h
      · simp at h
      · split at h
        · simp at h
        · omega
    · rw [if_pos h0] at h
      exact absurd h h0
  · rintro rfl
    unfold pord
    rw [(cmpB_zero _ _).2 rfl]
    simp [Lib.compareInt]
theorem plt_irrefl (a : PP) : ¬ plt a a := by
  unfold plt
  simp [List.lt_irrefl]
theorem plt_trans {a b c : PP} (h : plt a b) (h2 : plt b c) : plt a c := by
  unfold plt at *
  rcases h with h | ⟨h, h'⟩
  · rcases h2 with h2 | ⟨h2, _⟩
    · exact .inl (List.lt_trans h h2)
    · rw [h2] at h; exact .inl h
  · rw [h]
    rcases h2 with h2 | ⟨h2, h3⟩
    · exact .inl h2
    · exact .inr ⟨h2, by omega⟩
theorem plt_tri (a b : PP) : plt a b ∨ a = b ∨ plt b a := by
  by_cases h : a.name.data.toList = b.name.data.toList
  · by_cases h1 : a.value < b.value
    · exact .inl (.inr ⟨h, h1⟩)
    · by_cases h2 : b.value < a.value
      · exact .inr (.inr (.inr ⟨h.symm, h2⟩))
      · exact .inr (.inl (pp_ext h (by omega)))
  · by_cases h1 : a.name.data.toList < b.name.data.toList
    · exact .inl (.inl h1)
    · have h2 : b.name.data.toList ≤ a.name.data.toList := List.not_lt.1 h1
      rcases List.le_iff_lt_or_eq.1 h2 with h3 | h3
      · exact .inr (.inr (.inl h3))
      · exact absurd h3.symm h
theorem plt_asymm {a b : PP} (h : plt a b) : ¬ plt b a := fun h2 => plt_irrefl a (plt_trans h h2)
theorem ltOf_pord (a b : PP) : ltOf pord a b = true ↔ plt a b := by
  unfold ltOf
  rw [decide_eq_true_iff, pord_neg]
theorem ltOf_pord_f (a b : PP) : ltOf pord a b = false ↔ ¬ plt a b := by
  rw [← ltOf_pord]; simp
theorem pord_swo : SWO (ltOf pord) where
  irrefl x := (ltOf_pord_f x x).2 (plt_irrefl x)
  trans x y z h1 h2 := (ltOf_pord x z).2 (plt_trans ((ltOf_pord x y).1 h1) ((ltOf_pord y z).1 h2))
  ntrans x y z h1 h2 := (ltOf_pord_f x z).2 (by
    have h3 := (ltOf_pord_f x y).1 h1
    have h4 := (ltOf_pord_f y z).1 h2
    intro h
    rcases plt_tri x y with h5 | h5 | h5
    · exact h3 h5
    · subst h5; exact h4 h
    · exact h4 (plt_trans h5 h))
theorem pord_tot (x y : PP) (h : ltOf pord x y = false) (h2 : ltOf pord y x = false) : x = y := by
  rcases plt_tri x y with h3 | h3 | h3
  · exact absurd h3 ((ltOf_pord_f x y).1 h)
  · exact h3
  · exact absurd h3 ((ltOf_pord_f y x).1 h2)
theorem paheadB_iff (a b : PP) : paheadB a b = true ↔ plt a b := by
  unfold paheadB; rw [decide_eq_true_iff, pord_neg]
theorem pahead_less {a b : PP} (h : Op.bytesLess a.name.toList b.name.toList = true) : paheadB a b = true := by
  rw [paheadB_iff]
  rw [bytesLess_eq, decide_eq_true_iff, ByteArray.toList_eq, ByteArray.toList_eq] at h
  exact .inl h
theorem pahead_eq {a b : PP} (h : a.name.toList = b.name.toList) : paheadB a b = decide (a.value < b.value) := by
  rw [ByteArray.toList_eq, ByteArray.toList_eq] at h
  have h2 : ¬ a.name.data.toList < b.name.data.toList := by rw [h]; exact List.lt_irrefl _
  rw [Bool.eq_iff_iff, paheadB_iff, decide_eq_true_iff]
  unfold plt
  constructor
  · rintro (h3 | ⟨_, h3⟩)
    · exact absurd h3 h2
    · exact h3
  · exact fun h3 => .inr ⟨h, h3⟩
theorem pahead_no {a b : PP} (h : ¬ Op.bytesLess a.name.toList b.name.toList = true) (h2 : ¬ a.name.toList = b.name.toList) : paheadB a b = false := by
  rw [← Bool.not_eq_true, paheadB_iff]
  rw [bytesLess_eq, decide_eq_true_iff, ByteArray.toList_eq, ByteArray.toList_eq] at h
  rw [ByteArray.toList_eq, ByteArray.toList_eq] at h2
  rintro (h3 | ⟨h3, _⟩)
  · exact h h3
  · exact h2 h3
end Go.Proofs.YtidhlfcmjpnhgaaGreatDoor

/- The walks of label and its reference that make nothing: ahead, holds, right, same, few. -/
namespace Go.Proofs.YtidhlfcmjpnhgaaGreatDoor
open Go.RowKit Go.Sort

theorem fr_grow (w : World) (q : Nat) (os : Array Obj) : Fr Nob w (grow (w.drewN q) os) := by
  have h : ∀ (os : List Obj) (v : World), Fr Nob w v → Fr Nob w (grow v os.toArray) := by
    intro os
    induction os with
    | nil => intro v hv; simpa [grow] using hv
    | cons o os ih => intro v hv; have := ih _ (hv.alloc o); rwa [alloc_eq_grow, grow_grow, show #[o] ++ os.toArray = (o :: os).toArray by simp] at this
  simpa using h os.toList _ ((Fr.refl Nob w).drewN q)

theorem ref_Ahead (w : World) (a b : PP) :
    Calls Tryz.prog 114 #[.agg #[.string a.name, .int .i64 a.value], .agg #[.string b.name, .int .i64 b.value]] w fun e w' => e = .returned (.bool (paheadB a b)) ∧ Fr Nob w w' := by
  by_cases hl : Op.bytesLess a.name.toList b.name.toList = true
  · have H := Lib.hid (pahead_less hl)
    go_enter Tryz.func114, Tryz.ntmps114
    go_wp2
    go_ret
    exact ⟨ret1b H.out.symm, ((Fr.refl Nob w).alloc _).alloc _⟩
  · by_cases he : a.name.toList = b.name.toList
    · have H := Lib.hid (pahead_eq he)
      generalize hd : decide (a.value < b.value) = d at H
      go_enter Tryz.func114, Tryz.ntmps114
      go_wp2
      all_goals go_ret
      all_goals exact ⟨by rw [H.out]; first | rfl | exact ret1b hd | simp_all, ((Fr.refl Nob w).alloc _).alloc _⟩
    · have H := Lib.hid (pahead_no hl he)
      go_enter Tryz.func114, Tryz.ntmps114
      go_wp2
      all_goals go_ret
      all_goals exact ⟨ret1b H.out.symm, ((Fr.refl Nob w).alloc _).alloc _⟩

theorem pp_cells {w : World} {A : Option Addr} {c : Nat} {l : List PP} {k : Nat} (h : Sl w 2 A l.length c (l.flatMap pcs)) (hk : k < l.length) :
    ∃ b off, A = some ⟨b, off, none⟩ ∧ b < w.heap.size ∧ w.cell? ⟨b, off + k * 2, none⟩ = some (.string l[k].name) ∧ w.cell? ⟨b, off + k * 2 + 1, none⟩ = some (.int .i64 l[k].value) := by
  obtain ⟨b, off, hA, hb, hc⟩ := Sl.row (size := 2) pcs_len h hk
  exact ⟨b, off, hA, hb, hc 0 _ rfl, by rw [Nat.add_assoc]; exact hc 1 _ rfl⟩

def holdsB (l : List PP) (n : ByteArray) (op v : Int) : Bool := l.any fun p => p.name.toList == n.toList && meets p.value op v
theorem holds_snoc {l : List PP} {n : ByteArray} {op v : Int} {k : Nat} (hk : k < l.length) (h : holdsB (l.take k) n op v = false) (h2 : (l[k].name.toList == n.toList && meets l[k].value op v) = false) : holdsB (l.take (k + 1)) n op v = false := by
  unfold holdsB at *
  rw [List.take_succ_eq_append_getElem hk, List.any_append, h]
  simpa using h2
theorem holds_at {l : List PP} {n : ByteArray} {op v : Int} {k : Nat} (hk : k < l.length) (h2 : (l[k].name.toList == n.toList && meets l[k].value op v) = true) : holdsB l n op v = true := by
  unfold holdsB
  rw [List.any_eq_true]
  exact ⟨l[k], List.getElem_mem hk, h2⟩

end Go.Proofs.YtidhlfcmjpnhgaaGreatDoor

/- What the library's sort leaves behind, in this repo's words for memory. -/
namespace Go.Proofs.YtidhlfcmjpnhgaaGreatDoor
open Go.RowKit Go.Sort Go.Shelf

instance : Inhabited PP := ⟨⟨default, 0⟩⟩

theorem flatK_list (l : List PP) : (flatK pcs 2 l.toArray).toList = l.flatMap pcs := by
  apply List.ext_getElem?
  intro t
  by_cases h : t < l.length * 2
  · have h1 : t / 2 < l.length := by omega
    have h2 := flat_get pcs 2 pcs_len l (t / 2) (t % 2) h1 (by omega)
    rw [show t / 2 * 2 + t % 2 = t by omega] at h2
    have h3 := get_flatK pcs 2 l.toArray t (by simpa using h)
    have h4 : t < (flatK pcs 2 l.toArray).size := by simpa using h
    rw [getElem!_pos (flatK pcs 2 l.toArray) t h4, getElem!_pos l.toArray (t / 2) (by simpa using h1)] at h3
    have h5 : t % 2 < (pcs l[t / 2]).length := by rw [pcs_len]; omega
    rw [h2, List.getElem?_eq_getElem h5, List.getElem?_eq_getElem (by simpa using h4)]
    congr 1
    simp only [Array.getElem_toList, h3, List.getElem_toArray]
    rw [getElem!_pos (pcs l[t / 2]) (t % 2) h5]
  · rw [List.getElem?_eq_none (by simp; omega), List.getElem?_eq_none (by rw [flat_len pcs 2 pcs_len]; omega)]

/-- The cells of a row that hold l from their start on. -/
def Heads (cur : Array Value) (l : List PP) : Prop := cur.toList.take (l.length * 2) = l.flatMap pcs
theorem Heads.get {cur : Array Value} {l : List PP} (h : Heads cur l) {j : Nat} (hj : j < l.length * 2) : cur[j]? = (l.flatMap pcs)[j]? := by
  unfold Heads at h
  rw [← h, List.getElem?_take_of_lt hj, Array.getElem?_toList]

theorem holdsK_of {w : World} {b t : Nat} {cur : Array Value} {l : List PP} (h : Blk w b t cur) (hh : Heads cur l) : HoldsK pcs 2 w b 0 l.toArray := by
  intro j hj
  have hj' : j < l.length * 2 := by simpa using hj
  refine ⟨?_, h.frozen _⟩
  rw [Nat.zero_add, h.cell, hh.get hj', ← flatK_list, getElem!_pos (flatK pcs 2 l.toArray) j hj, Array.getElem?_toList, Array.getElem?_eq_getElem hj]
  rfl

theorem blk_sorted {w : World} {b t : Nat} {cur : Array Value} (h : Blk w b t cur) (d : List PP) (n : Nat) (os : Array Obj) (hsz : d.length * 2 ≤ cur.size) :
    ∃ cur', Blk (sortWorldK pcs 2 w b 0 n d.toArray os) b t cur' ∧ cur'.size = cur.size ∧ Heads cur' d := by
  refine ⟨putCells id 0 (flatK pcs 2 d.toArray) cur, ?_, by simp [putCells], ?_⟩
  · have hb : b < w.heap.size := h.lt
    unfold sortWorldK
    unfold Blk
    rw [heap_grow_old _ _ (by rw [size_putRowK]; exact hb)]
    show (w.heap.modify b _)[b]? = _
    rw [Array.getElem?_modify]
    simp only [if_true]
    rw [show w.heap[b]? = some (.cells cur t (0, 0)) from h]
    rfl
  · unfold Heads
    rw [← flatK_list]
    apply List.ext_getElem?
    intro j
    by_cases hj : j < d.length * 2
    · have h4 : j < (flatK pcs 2 d.toArray).size := by simpa using hj
      rw [List.getElem?_take_of_lt hj]
      have hjc : j < cur.size := by omega
      simp only [putCells, Array.getElem?_toList, Array.getElem?_mapIdx, Array.getElem?_eq_getElem hjc, Array.getElem?_eq_getElem h4, Option.map_some]
      rw [if_pos ⟨by omega, by simpa using hj⟩, Nat.sub_zero, getElem!_pos (flatK pcs 2 d.toArray) j h4]
      rfl
    · rw [List.getElem?_eq_none (by simp; omega), List.getElem?_eq_none (by simp; omega)]
theorem fr_sorted {w : World} {b : Nat} (d : List PP) (n : Nat) (os : Array Obj) : Fr (Only b) w (sortWorldK pcs 2 w b 0 n d.toArray os) := by
  have hs : (sortWorldK pcs 2 w b 0 n d.toArray os).heap.size = w.heap.size + os.size := by
    unfold sortWorldK; rw [size_grow, size_putRowK]; rfl
  refine ⟨rfl, rfl, rfl, by omega, fun k hk hn => ?_⟩
  unfold sortWorldK
  rw [heap_grow_old _ _ (by rw [size_putRowK]; exact hk)]
  show (w.heap.modify b _)[k]? = _
  rw [Array.getElem?_modify, if_neg (fun e => hn e.symm)]


theorem order_lays (blk off size : Nat) (w : World) : CmpLays Tryz.prog 48 #[] pcs 2 pord blk off size w := fun _ _ _ _ x y => lab_order _ x y

def msort (l : List PP) : List PP := l.mergeSort fun x y => !(ltOf pord) y x
theorem msort_len (l : List PP) : (msort l).length = l.length := by unfold msort; exact List.length_mergeSort _

theorem lab_sort {w : World} {b t cap : Nat} {cur : Array Value} {l : List PP} (h : Blk w b t cur) (hh : Heads cur l) (hc : l.length * 2 ≤ cur.size) (hl : l.length < 4611686018427387904) :
    Calls Tryz.prog 55 #[.slice (some ⟨b, 0, none⟩) l.length cap, .func (.func 48) #[] #[]] w fun e w' => e = .returned (.tuple #[]) ∧ Fr (Only b) w w' ∧ ∃ cur', Blk w' b t cur' ∧ cur'.size = cur.size ∧ Heads cur' (msort l) := by
  have eg : ∀ args w, (callFunc 48 args).run Tryz.prog w = .ok (.enter 48 args) w := enters_of Tryz.func48 (by kernel_rfl) rfl
  have hcon := AnyQ.slices_SortFunc_total Tryz.sortPP 2 Tryz.isAgg41 Tryz.sizeOf41 pcs (fun _ => rfl) (fun x v hv => by simp [pcs] at hv; rcases hv with rfl | rfl <;> rfl) pord pord_swo 48 #[] b 0 cap l.toArray w eg (order_lays b 0 l.toArray.size w) (holdsK_of h hh) h.lt (by simpa using hl) pord_tot
  change Calls Tryz.prog 55 _ _ _ at hcon
  refine hcon.mono ?_
  rintro e w' ⟨rfl, n, os, rfl⟩
  exact ⟨rfl, fr_sorted _ _ _, blk_sorted h _ n os (by rw [List.length_mergeSort]; simpa using hc)⟩
end Go.Proofs.YtidhlfcmjpnhgaaGreatDoor

/- slices.Clone and slices.Compact at propositions. -/
namespace Go.Proofs.YtidhlfcmjpnhgaaGreatDoor
open Go.RowKit Go.Sort Go.Shelf

theorem elemPP : ElemT Tryz.prog 37 41 2 24 := ElemT.mk (z := .agg #[.string default, .int .i64 0]) Tryz.underlying37 (by kernel_rfl) (by kernel_rfl) (by decide)

theorem pcs_one {l : List PP} : ∀ u ∈ l.flatMap pcs, u.oneCell' = true := by
  intro u hu
  simp only [List.mem_flatMap] at hu
  obtain ⟨x, _, hx⟩ := hu
  simp [pcs] at hx
  rcases hx with rfl | rfl <;> rfl

/-- A row that the call owns, or none. -/
theorem lab_Clone (w : World) (A : Option Addr) (c : Nat) (l : List PP) (hl : Sl w 2 A l.length c (l.flatMap pcs)) (h63 : l.length ≤ 10000) :
    Calls Tryz.prog 54 #[.slice A l.length c] w fun e w' => ∃ A' c', e = .returned (.slice A' l.length c') ∧ w'.ownsRow w.heap.size 41 2 (.slice A' l.length c') l.length (l.flatMap pcs) ∧ Fr Nob w w' := by
  have HL := Lib.hid hl
  have hm := hl.max
  have hle := hl.le
  have hnil := hl.nil
  unfold maxLen at hm
  clear hl
  have q24 : ∀ (w : World) (a : Option Addr) (n c n' c' : Nat), Sem.run Tryz.prog (binOp .eql 37 (.slice a n c) (.slice none n' c')) w = .ok (.bool a.isNone) w := fun w a n c n' c' => Lib.run_eql_slice_nil w _ _ a n c n' c' Tryz.underlying37
  cases A with
  | none =>
    have h0 : l = [] := List.eq_nil_of_length_eq_zero (by have := hnil rfl; omega)
    subst h0
    clear hnil
    go_enter Tryz.func54, Tryz.ntmps54
    go_wp2_with fail
    go_ret
    exact ⟨none, 0, rfl, ⟨rfl, .inl ⟨rfl, rfl⟩⟩, Fr.refl _ _⟩
  | some a =>
    clear hnil
    go_enter Tryz.func54, Tryz.ntmps54
    go_wp2_with (at_builtin; refine wpList_app rfl _ _ 37 rfl elemPP (base := w.heap.size) (xs := []) (news := l.flatMap pcs) rfl ?own rfl ?src ?one ?h63 ?hby ?hbase ?_)
    case own => exact World.ownsRow_made w #[] 0 (Nat.le_refl _) (Nat.zero_le _) (by simp)
    case src => exact HL.out.alloc _
    case one => exact pcs_one
    case h63 => unfold maxLen; omega
    case hby => omega
    case hbase => simp
    intro A' c' w1 hown hgr hlies
    go_wp2_with fail
    go_ret
    dsimp only at hown ⊢
    exact ⟨A', c', rfl, hown, ((Fr.refl Nob w).alloc _).grown hgr (fun k hk hlt => by simp at hk; omega)⟩

end Go.Proofs.YtidhlfcmjpnhgaaGreatDoor

/- slices.Compact at propositions. -/
namespace Go.Proofs.YtidhlfcmjpnhgaaGreatDoor
open Go.RowKit Go.Sort Go.Shelf Go.Lib

def ppeq (x y : PP) : Bool := x.name.toList == y.name.toList && x.value == y.value
theorem ppeq_iff (x y : PP) : ppeq x y = true ↔ x = y := by
  unfold ppeq
  rw [ByteArray.toList_eq, ByteArray.toList_eq]
  constructor
  · intro h
    simp only [Bool.and_eq_true, beq_iff_eq] at h
    exact pp_ext h.1 h.2
  · rintro rfl; simp
instance : DecidableEq PP := fun x y => if h : ppeq x y = true then isTrue ((ppeq_iff x y).1 h) else isFalse fun e => h ((ppeq_iff x y).2 e)

theorem pp_eql (x y : PP) (w : World) : Sem.run Tryz.prog (binOp .eql 41 (.agg #[.string x.name, .int .i64 x.value]) (.agg #[.string y.name, .int .i64 y.value])) w = .ok (.bool (ppeq x y)) w := by
  have hS : Tryz.prog.underlying 41 = some (.struct (Tryz.prog.fieldsOf 41)) := by kernel_rfl
  have hp : Tryz.prog.stoodInHeld 41 = false := by kernel_rfl
  rw [run_eql_struct, show (10000 : Nat) = 9999 + 1 from rfl, run_equalIn_agg w 9999 41 _ _ hS hp]
  simp only [Program.fieldsOf, Tryz.underlying41]
  go_simp
  unfold ppeq
  by_cases h1 : x.name.toList = y.name.toList <;> by_cases h2 : x.value = y.value <;> simp [h1, h2]
theorem pp_neq (x y : PP) (w : World) : Sem.run Tryz.prog (binOp .neq 41 (.agg #[.string x.name, .int .i64 x.value]) (.agg #[.string y.name, .int .i64 y.value])) w = .ok (.bool (!ppeq x y)) w := by
  have hS : Tryz.prog.underlying 41 = some (.struct (Tryz.prog.fieldsOf 41)) := by kernel_rfl
  have hp : Tryz.prog.stoodInHeld 41 = false := by kernel_rfl
  rw [run_neq_struct, show (10000 : Nat) = 9999 + 1 from rfl, run_equalIn_agg w 9999 41 _ _ hS hp]
  simp only [Program.fieldsOf, Tryz.underlying41]
  go_simp
  unfold ppeq
  by_cases h1 : x.name.toList = y.name.toList <;> by_cases h2 : x.value = y.value <;> simp [h1, h2]
theorem pp_guard (op : BinOp) (a b : Operand) (x y : PP) (w : World) : Sem.run Tryz.prog (eqGuard op 41 a b (.agg #[.string x.name, .int .i64 x.value]) (.agg #[.string y.name, .int .i64 y.value])) w = .ok () w :=
  run_eqGuard_agg w op 41 a b _ _ (by kernel_rfl)
theorem Heads.cells {w : World} {b t : Nat} {cur : Array Value} {l : List PP} (h : Blk w b t cur) (hh : Heads cur l) {k : Nat} (hk : k < l.length) :
    w.cell? ⟨b, 0 + k * 2, none⟩ = some (.string l[k].name) ∧ w.cell? ⟨b, 0 + k * 2 + 1, none⟩ = some (.int .i64 l[k].value) := by
  have h0 := flat_get pcs 2 pcs_len l k 0 hk (by omega)
  have h1 := flat_get pcs 2 pcs_len l k 1 hk (by omega)
  rw [h.cell, h.cell, hh.get (by omega), hh.get (by omega), Nat.zero_add, ← Nat.add_zero (k * 2), h0, Nat.add_zero, h1]
  exact ⟨rfl, rfl⟩
theorem Heads.put {cur : Array Value} {l : List PP} (hh : Heads cur l) (hc : l.length * 2 ≤ cur.size) {k : Nat} (hk : k < l.length) (x : PP) :
    Heads ((cur.setIfInBounds (k * 2) (.string x.name)).setIfInBounds (k * 2 + 1) (.int .i64 x.value)) (l.set k x) := by
  unfold Heads
  apply List.ext_getElem?
  intro j
  by_cases hj : j < l.length * 2
  · have h2 := flat_get pcs 2 pcs_len (l.set k x) (j / 2) (j % 2) (by simp; omega) (by omega)
    rw [show j / 2 * 2 + j % 2 = j by omega] at h2
    rw [h2, List.getElem?_take_of_lt (by simpa using hj), Array.getElem?_toList, Array.getElem?_setIfInBounds, Array.getElem?_setIfInBounds, List.getElem_set]
    have h3 := flat_get pcs 2 pcs_len l (j / 2) (j % 2) (by omega) (by omega)
    rw [show j / 2 * 2 + j % 2 = j by omega] at h3
    by_cases hk2 : k = j / 2
    · rw [if_pos hk2]
      rcases Nat.mod_two_eq_zero_or_one j with h | h
      · rw [if_neg (by omega), if_pos (by omega), h, if_pos (by omega)]; rfl
      · rw [if_pos (by omega), h, if_pos (by simp; omega)]; rfl
    · rw [if_neg hk2, if_neg (by omega), if_neg (by omega), hh.get hj, h3]
  · rw [List.getElem?_eq_none (by simp; omega), List.getElem?_eq_none (by rw [flat_len pcs 2 pcs_len]; simp; omega)]
end Go.Proofs.YtidhlfcmjpnhgaaGreatDoor

/- clear at a row of propositions. -/
namespace Go.Proofs.YtidhlfcmjpnhgaaGreatDoor
open Go.RowKit Go.Sort Go.Shelf Go.Lib

theorem Blk.setCells {b t : Nat} : ∀ (L : List Value) (o : Nat) (w : World) (cur : Array Value), Blk w b t cur → ∃ cur', Blk (w.setCells b o L) b t cur' ∧ cur'.size = cur.size ∧ (∀ i, i < o → cur'[i]? = cur[i]?) ∧ Fr (Only b) w (w.setCells b o L)
  | [], _, w, cur, h => ⟨cur, h, rfl, fun _ _ => rfl, Fr.refl _ w⟩
  | v :: r, o, w, cur, h => by
    obtain ⟨cur', h1, h2, h3, h4⟩ := Blk.setCells r (o + 1) _ _ (h.set o v)
    refine ⟨cur', h1, by rw [h2]; simp, fun i hi => ?_, ((Fr.refl (Only b) w).setCell (p := ⟨b, o, none⟩) (fun _ => rfl) v).call h4 (fun _ e _ => e)⟩
    rw [h3 i (by omega), Array.getElem?_setIfInBounds, if_neg (by omega)]

theorem clear_PP {wr : World} {b t m c o : Nat} {cur : Array Value} (hb : Blk wr b t cur) (ho : o * 2 + m * 2 ≤ cur.size) (hm : 0 < m) :
    ∃ Z : List Value, ∀ ty, (Builtin.clear_ #[37] ty #[.slice (some ⟨b, o * 2, none⟩) m c]).run Tryz.prog wr = .ok (.tuple #[]) (wr.setCells b (o * 2) Z) := by
  have hv : ∀ w, (zeroValue 41).run Tryz.prog w = .ok (.agg #[.string default, .int .i64 0]) w := fun w => by kernel_rfl
  have hzl : (Builtin.zeroCells (Value.agg #[.string default, .int .i64 0]).cells m).toList.length = m * 2 := by simp [Builtin.zeroCells, Value.cells]
  refine ⟨(Builtin.zeroCells (Value.agg #[.string default, .int .i64 0]).cells m).toList, fun ty => ?_⟩
  have hst := run_storeCells_cells (P := Tryz.prog) b (o * 2) (Builtin.zeroCells (Value.agg #[.string default, .int .i64 0]).cells m).toList 0 wr
    (fun j hj => by rw [hb.cell, Array.getElem?_eq_getElem (by omega)]; rfl) (fun j _ => hb.frozen _) (fun v hv' => by
      simp only [Builtin.zeroCells, Value.cells, Array.toList_map, List.mem_map] at hv'
      obtain ⟨i, _, rfl⟩ := hv'
      have : i % 2 = 0 ∨ i % 2 = 1 := by omega
      simp only [List.size_toArray, List.length_cons, List.length_nil]
      rcases this with h | h <;> (simp only [Nat.zero_add, Nat.reduceAdd, h]; rfl))
  simp only [Nat.add_zero] at hst
  obtain ⟨n, rfl⟩ : ∃ n, m = n + 1 := ⟨m - 1, by omega⟩
  simp only [Builtin.clear_]
  simp [run_underlying Tryz.underlying37, hv, hst]
end Go.Proofs.YtidhlfcmjpnhgaaGreatDoor

/- slices.Compact at propositions: the walk. -/
namespace Go.Proofs.YtidhlfcmjpnhgaaGreatDoor
open Go.RowKit Go.Sort Go.Shelf Go.Lib

theorem Heads.cell0 {w : World} {b t : Nat} {cur : Array Value} {l : List PP} (h : Blk w b t cur) (hh : Heads cur l) {k : Nat} (hk : k < l.length) :
    w.cell? ⟨b, k * 2, none⟩ = some (.string l[k].name) ∧ w.cell? ⟨b, k * 2 + 1, none⟩ = some (.int .i64 l[k].value) := by
  have := Heads.cells h hh hk
  rwa [Nat.zero_add] at this
def dd (l : List PP) : List PP := compactUpTo l.toArray l.length
def CompW (w : World) (b t : Nat) (n : Nat) (l : List PP) (m kk : Nat) (wr : World) : Prop :=
  ∃ (dk : List PP) (cur : Array Value), CompInv l.toArray m kk dk.toArray ∧ dk.length = l.length ∧ Blk wr b t cur ∧ cur.size = n ∧ Heads cur dk ∧ Fr (Only b) w wr

theorem keeps_eq (l : List PP) (k : Nat) (hlt : k + 1 < l.length) : keeps l.toArray (k + 1) = !ppeq l[k + 1] l[k] := by
  have e1 : l.toArray[k + 1]! = l[k + 1] := by rw [getElem!_pos l.toArray (k + 1) (by simpa using hlt)]; rfl
  have e0 : l.toArray[k]! = l[k] := by rw [getElem!_pos l.toArray k (by simp; omega)]; rfl
  unfold keeps
  rw [Nat.add_sub_cancel, e1, e0]
  by_cases h : l[k + 1] = l[k]
  · have h3 := (ppeq_iff _ _).2 h
    rw [h3]; simp [h]
  · have h3 : ppeq l[k + 1] l[k] = false := by rw [← Bool.not_eq_true, ppeq_iff]; exact h
    rw [h3]; simp [h]
theorem CompInv_high {l dk : List PP} {m kk i : Nat} (h : CompInv l.toArray m kk dk.toArray) (hd : dk.length = l.length) (hi : i < l.length) (hk : kk ≤ i) : dk[i]'(by omega) = l[i] := by
  have := h.high i hk
  rw [getElem!_pos dk.toArray i (by simp; omega), getElem!_pos l.toArray i (by simpa using hi)] at this
  simpa using this
theorem CompInv_take {l dk : List PP} {kk : Nat} (h : CompInv l.toArray l.length kk dk.toArray) (hd : dk.length = l.length) : dd l = dk.take kk := by
  have hk := h.lt
  apply List.ext_getElem?
  intro j
  by_cases hj : j < kk
  · have := h.low j hj
    rw [getElem!_pos dk.toArray j (by simp; omega)] at this
    unfold dd
    rw [this, List.getElem?_take_of_lt hj, List.getElem?_eq_getElem (by omega)]
    rfl
  · rw [List.getElem?_eq_none (by unfold dd; rw [h.len]; omega), List.getElem?_eq_none (by simp; omega)]
theorem Heads.less {cur cur' : Array Value} {dk : List PP} {kk : Nat} (h : Heads cur dk) (hk : kk ≤ dk.length) (he : ∀ i, i < kk * 2 → cur'[i]? = cur[i]?) : Heads cur' (dk.take kk) := by
  unfold Heads
  apply List.ext_getElem?
  intro i
  by_cases hi : i < kk * 2
  · rw [List.getElem?_take_of_lt (by simp; omega), Array.getElem?_toList, he i hi, h.get (by omega)]
    have h1 := flat_get pcs 2 pcs_len dk (i / 2) (i % 2) (by omega) (by omega)
    have h2 := flat_get pcs 2 pcs_len (dk.take kk) (i / 2) (i % 2) (by simp; omega) (by omega)
    rw [show i / 2 * 2 + i % 2 = i by omega] at h1 h2
    rw [h1, h2, List.getElem_take]
  · rw [List.getElem?_eq_none (by simp; omega), List.getElem?_eq_none (by rw [flat_len pcs 2 pcs_len]; simp; omega)]
theorem keeps_next {l : List PP} {k : Nat} (hall : ∀ j, j < k + 1 → keeps l.toArray j = true) (h : keeps l.toArray (k + 1) = true) : ∀ j, j < k + 1 + 1 → keeps l.toArray j = true := by
  intro j hj
  rcases Nat.lt_succ_iff_lt_or_eq.1 hj with h' | h'
  · exact hall j h'
  · subst h'; exact h

set_option maxHeartbeats 2000000 in
theorem lab_Compact (w : World) (b t cap : Nat) (cur : Array Value) (l : List PP) (h : Blk w b t cur) (hh : Heads cur l) (hc : l.length * 2 ≤ cur.size) (h63 : l.length ≤ 10000) (hcap : l.length ≤ cap) (hmx : cap ≤ 9223372036854775807) :
    Calls Tryz.prog 56 #[.slice (some ⟨b, 0, none⟩) l.length cap] w fun e w' => e = .returned (.slice (some ⟨b, 0, none⟩) (dd l).length cap) ∧ Fr (Only b) w w' ∧ ∃ cur', Blk w' b t cur' ∧ cur'.size = cur.size ∧ Heads cur' (dd l) := by
  have HB := Lib.hid h
  have HH := Lib.hid hh
  have HC := Lib.hid hc
  clear h hh hc
  have hq : ∀ (xn yn : ByteArray) (xv yv : Int) (w : World), Sem.run Tryz.prog (binOp .eql 41 (.agg #[.string xn, .int .i64 xv]) (.agg #[.string yn, .int .i64 yv])) w = .ok (.bool (ppeq ⟨xn, xv⟩ ⟨yn, yv⟩)) w := fun xn yn xv yv w => pp_eql ⟨xn, xv⟩ ⟨yn, yv⟩ w
  have hn : ∀ (xn yn : ByteArray) (xv yv : Int) (w : World), Sem.run Tryz.prog (binOp .neq 41 (.agg #[.string xn, .int .i64 xv]) (.agg #[.string yn, .int .i64 yv])) w = .ok (.bool (!ppeq ⟨xn, xv⟩ ⟨yn, yv⟩)) w := fun xn yn xv yv w => pp_neq ⟨xn, xv⟩ ⟨yn, yv⟩ w
  have hg : ∀ (op : BinOp) (a b : Operand) (xn yn : ByteArray) (xv yv : Int) (w : World), Sem.run Tryz.prog (eqGuard op 41 a b (.agg #[.string xn, .int .i64 xv]) (.agg #[.string yn, .int .i64 yv])) w = .ok () w := fun op a b xn yn xv yv w => pp_guard op a b ⟨xn, xv⟩ ⟨yn, yv⟩ w
  by_cases h2 : l.length < 2
  · have h2I : (l.length : Int) < 2 := by omega
    have HD := Lib.hid (show dd l = l from compact_all l (fun j hj => keeps_lt_one _ j (by omega)))
    go_enter Tryz.func56, Tryz.ntmps56
    go_wp2_with fail
    go_ret
    rw [HD.out]
    exact ⟨rfl, Fr.refl _ _, cur, HB.out, rfl, HH.out⟩
  · have h2I : ¬ (l.length : Int) < 2 := by omega
    go_enter Tryz.func56, Tryz.ntmps56
    go_wp2_with fail
    go_loopw [3] (fun s wr => ∃ k : Nat, k + 1 ≤ l.length ∧ s = .int .i64 ((k : Int) + 1) ∧ Hid (Blk wr b t cur) ∧ Hid (Fr Nob w wr) ∧ Hid (∀ j, j < k + 1 → keeps l.toArray j = true)) (fun s _ => l.length - (intOf s).toNat)
    case atStart => exact ⟨0, by omega, rfl, HB, Lib.hid (Fr.refl _ _), Lib.hid (keeps_lt_one _)⟩
    case round =>
      obtain ⟨k, hk, rfl, hb, hf, hall⟩ := hrel
      by_cases hlt : k + 1 < l.length
      · have hI : (k : Int) + 1 < l.length := by omega
        have hI1 : (k : Int) < l.length := by omega
        have hI2 : 0 ≤ (k : Int) := by omega
        obtain ⟨c0, c1⟩ := Heads.cell0 hb.out HH.out hlt
        obtain ⟨p0, p1⟩ := Heads.cell0 hb.out HH.out (k := k) (by omega)
        have hfz := hb.out.frozen
        have HX := Lib.hid (show keeps l.toArray (k + 1) = !ppeq l[k + 1] l[k] from keeps_eq l k hlt)
        generalize l[k + 1] = x at *
        generalize l[k] = y at *
        obtain ⟨xn, xv⟩ := x
        obtain ⟨yn, yv⟩ := y
        simp only at c0 c1 p0 p1
        generalize hpe : ppeq ⟨xn, xv⟩ ⟨yn, yv⟩ = pe at HX
        cases pe
        · go_wp2_with fail
          go_quiet (fail)
          go_wp2_with fail
          go_roundw
          case rel => exact ⟨k + 1, by omega, by go_num, Lib.hid (hb.out.drewN _), Lib.hid (hf.out.drewN _), Lib.hid (keeps_next hall.out HX.out)⟩
          case measure => simp [intOf]; omega
        · go_wp2_with fail
          go_quiet (fail)
          go_wp2_with fail
          clear c0 c1 p0 p1 hpe
          obtain ⟨wo, hwo⟩ : ∃ wo : World, wo = wr := ⟨_, rfl⟩
          clear hwo
          go_loopw [3, 5] (fun s v wl => ∃ j kk : Nat, k + 1 + (j + 1) ≤ l.length ∧ s = .int .i64 kk ∧ v = .int .i64 ((j : Int) + 1) ∧ kk < k + 1 + (j + 1) ∧ Hid (CompW w b t cur.size l (k + 1 + (j + 1)) kk wl)) (fun _ v _ => l.length - (intOf v).toNat)
          case atStart => exact ⟨0, k + 1, by omega, by go_num, by go_num, by omega, Lib.hid ⟨l, cur, CompInv.start hall.out (by rw [HX.out]; rfl), rfl, hb.out.drewN _, rfl, HH.out, (hf.out.drewN _).mono (fun _ _ h => h.elim)⟩⟩
          case round =>
            obtain ⟨j, kk, hjl, rfl, rfl, hkk, hcw⟩ := hrel
            obtain ⟨dk, cur2, hci, hdl, hb2, hcs, hh2, hf2⟩ := hcw.out
            have HI := Lib.hid hci
            have HB2 := Lib.hid hb2
            have HH2 := Lib.hid hh2
            have HF2 := Lib.hid hf2
            have hfz2 := hb2.frozen
            clear hfz
            by_cases hlt2 : k + 1 + (j + 1) < l.length
            · obtain ⟨c0, c1⟩ := Heads.cell0 hb2 hh2 (k := k + 1 + (j + 1)) (by omega)
              obtain ⟨p0, p1⟩ := Heads.cell0 hb2 hh2 (k := k + 1 + j) (by omega)
              obtain ⟨q0, q1⟩ := Heads.cell0 hb2 hh2 (k := kk) (by omega)
              rw [Nat.add_mul (k + 1) (j + 1) 2] at c0 c1
              rw [Nat.add_mul (k + 1) j 2] at p0 p1
              have e1 : dk[k + 1 + (j + 1)]'(by omega) = l[k + 1 + (j + 1)] := CompInv_high hci hdl hlt2 (by omega)
              have e0 : dk[k + 1 + j]'(by omega) = l[k + 1 + j] := CompInv_high hci hdl (by omega) (by omega)
              rw [e1] at c0 c1
              rw [e0] at p0 p1
              have HK := Lib.hid (show keeps l.toArray (k + 1 + (j + 1)) = !ppeq l[k + 1 + (j + 1)] l[k + 1 + j] from keeps_eq l (k + 1 + j) (by omega))
              have HV := Lib.hid (show l.toArray[k + 1 + (j + 1)]! = l[k + 1 + (j + 1)] by rw [getElem!_pos l.toArray _ (by simpa using hlt2)]; rfl)
              clear hci hb2 hh2 hf2 e0 e1
              generalize l[k + 1 + (j + 1)] = x at *
              generalize l[k + 1 + j] = y at *
              obtain ⟨xn, xv⟩ := x
              obtain ⟨yn, yv⟩ := y
              simp only at c0 c1 p0 p1
              have hI3 : (k : Int) + 1 + (j + 1) < l.length := by omega
              have hI4 : 0 ≤ (j : Int) := by omega
              have hI5 : (kk : Int) < l.length := by omega
              generalize hpe : ppeq ⟨xn, xv⟩ ⟨yn, yv⟩ = pe at HK
              cases pe
              · go_wp2_with fail
                go_quiet (fail)
                go_wp2_with fail
                have HS := Lib.hid (show CompInv l.toArray (k + 1 + (j + 1) + 1) (kk + 1) (dk.set kk ⟨xn, xv⟩).toArray by
                  have := HI.out.keep (by simpa using hlt2) (by rw [HK.out]; rfl)
                  rw [HV.out, List.setIfInBounds_toArray] at this
                  exact this)
                go_roundw
                case rel => exact ⟨j + 1, kk + 1, by omega, by go_num, by go_num, by omega, Lib.hid ⟨dk.set kk ⟨xn, xv⟩, _, HS.out, by simp; exact hdl, ((HB2.out.drewN _).set _ _).set _ _, by simp; exact hcs, Heads.put HH2.out (by have := HC.out; omega) (by omega) ⟨xn, xv⟩, ((HF2.out.drewN _).setCell (p := ⟨b, _, none⟩) (fun _ => rfl) _).setCell (p := ⟨b, _, none⟩) (fun _ => rfl) _⟩⟩
                case measure => simp [intOf]; omega
              · go_wp2_with fail
                go_quiet (fail)
                go_wp2_with fail
                go_roundw
                case rel => exact ⟨j + 1, kk, by omega, rfl, by go_num, by omega, Lib.hid ⟨dk, cur2, HI.out.skip (by rw [HK.out]; rfl), hdl, HB2.out.drewN _, hcs, HH2.out, HF2.out.drewN _⟩⟩
                case measure => simp [intOf]; omega
            · obtain ⟨Z, hcl⟩ := clear_PP (c := cap - kk) (m := l.length - kk) (o := kk) hb2 (by have := HC.out; omega) (by omega)
              have hm : k + 1 + (j + 1) = l.length := by omega
              have hI5 : (kk : Int) < l.length := by omega
              have hI6 : (kk : Int) ≤ l.length := by omega
              have hI7 : 0 ≤ (kk : Int) := by omega
              have HD := Lib.hid (show dd l = dk.take kk from CompInv_take (by rw [← hm]; exact hci) hdl)
              have HM := Lib.hid hm
              obtain ⟨cur3, b3, s3, g3, f3⟩ := Blk.setCells Z (kk * 2) wr cur2 hb2
              have HB3 := Lib.hid b3
              have HG3 := Lib.hid g3
              have HF3 := Lib.hid f3
              clear hci hb2 hh2 hf2 hm b3 g3 f3
              have HL2 := Lib.hid (show kk = (dd l).length by rw [HD.out, List.length_take]; omega)
              go_wp2_with fail
              go_ret
              refine ⟨by rw [← HL2.out]; rfl, HF2.out.call HF3.out (fun _ e _ => e), cur3, HB3.out, s3.trans hcs, ?_⟩
              rw [HD.out]
              exact Heads.less HH2.out (by omega) HG3.out
      · have hkk : k + 1 = l.length := by omega
        have hkI : (k : Int) + 1 = l.length := by omega
        have HD := Lib.hid (show dd l = l from compact_all l (by rw [← hkk]; exact hall.out))
        go_wp2_with fail
        go_ret
        rw [HD.out]
        exact ⟨rfl, hf.out.mono (fun _ _ h => h.elim), cur, hb.out, rfl, HH.out⟩
end Go.Proofs.YtidhlfcmjpnhgaaGreatDoor

/- label.Of: the propositions sorted, each once. -/
namespace Go.Proofs.YtidhlfcmjpnhgaaGreatDoor
open Go.RowKit Go.Sort Go.Shelf Go.Lib

/-- A plain block. -/
def Pb (w : World) (b : Nat) : Prop := ∃ t cs, Blk w b t cs
section
variable {w w' : World} {b : Nat}
theorem Pb.lt (h : Pb w b) : b < w.heap.size := let ⟨_, _, h⟩ := h; h.lt
theorem Pb.fr {S : Nat → Prop} (h : Pb w b) (hf : Fr S w w') (hb : ¬ S b) : Pb w' b := let ⟨t, cs, h⟩ := h; ⟨t, cs, h.fr hf hb⟩
theorem Pb.set (h : Pb w b) (g i : Nat) (v : Value) : Pb (w.setCell ⟨g, i, none⟩ v) b := by
  obtain ⟨t, cs, h⟩ := h
  by_cases e : b = g
  · subst e; exact ⟨t, _, h.set i v⟩
  · exact ⟨t, cs, h.far (p := ⟨g, i, none⟩) e v⟩
theorem Pb.alloc (h : Pb w b) (o : Obj) : Pb (w.alloc o) b := let ⟨t, cs, h⟩ := h; ⟨t, cs, h.alloc o⟩
theorem Pb.free (h : Pb w b) (i : Nat) : w.frozen? ⟨b, i, none⟩ = false := let ⟨_, _, h⟩ := h; h.frozen i
theorem own_pb {base e size n c : Nat} {A : Option Addr} {xs : List Value} (h : w.ownsRow base e size (.slice A n c) n xs) : ∀ g off, A = some ⟨g, off, none⟩ → Pb w g := fun g off e => by
  subst e
  rcases h.2 with ⟨hv, _⟩ | ⟨g', cap, cur, hv, _, hcur, _⟩
  · simp at hv
  · simp only [Value.slice.injEq, Option.some.injEq, Addr.mk.injEq, and_true] at hv
    obtain ⟨⟨rfl, _⟩, _⟩ := hv
    exact ⟨_, cur, hcur⟩
end
theorem lab_Compact_nil (w : World) : Calls Tryz.prog 56 #[.slice none 0 0] w fun e w' => e = .returned (.slice none 0 0) ∧ w = w' := by
  go_enter Tryz.func56, Tryz.ntmps56
  go_wp2_with fail
  go_ret
  exact ⟨rfl, rfl⟩
theorem lab_sort_nil (w : World) (fv : Value) : Calls Tryz.prog 55 #[.slice none 0 0, fv] w fun e w' => e = .returned (.tuple #[]) ∧ w' = w := by
  have := AnyF.slices_SortFunc_none { Tryz.sortPP with } none 0 fv w
  exact this

theorem dd_len (l : List PP) : (dd l).length ≤ l.length := by
  unfold dd compactUpTo
  rw [List.length_map]
  exact Nat.le_trans (List.length_filter_le _ _) (by simp)
def lof (l : List PP) : List PP := dd (msort l)
theorem lof_nil : lof [] = [] := by unfold lof msort dd; simp [compactUpTo]

theorem lab_Of (w : World) (A : Option Addr) (c : Nat) (l : List PP) (hl : Sl w 2 A l.length c (l.flatMap pcs)) (h63 : l.length ≤ 10000) :
    Calls Tryz.prog 33 #[.slice A l.length c] w fun e w' => ∃ A' c', e = .returned (.slice A' (lof l).length c') ∧ Sl w' 2 A' (lof l).length c' ((lof l).flatMap pcs) ∧ Fr Nob w w' ∧ (∀ g off, A' = some ⟨g, off, none⟩ → w.heap.size ≤ g ∧ Pb w' g) := by
  have HL := Lib.hid hl
  clear hl
  go_enter Tryz.func33, Tryz.ntmps33
  go_wp2_with fail
  refine (lab_Clone _ A c l HL.out h63).mono ?_
  rintro e w1 ⟨A1, c1, rfl, hown, hf1⟩
  have HF1 := Lib.hid hf1
  clear hf1
  rcases hown.2 with ⟨hv, h0⟩ | ⟨g, cap, cur, hv, hge, hcur, hle, hmx, hcs, htake⟩
  · simp only [Value.slice.injEq] at hv
    obtain ⟨rfl, _, rfl⟩ := hv
    have h0' : l = [] := List.eq_nil_of_length_eq_zero h0
    subst h0'
    clear hown h0
    go_wp2_with fail
    refine (lab_sort_nil _ _).mono ?_
    rintro e w2 ⟨rfl, rfl⟩
    go_wp2_with fail
    refine (lab_Compact_nil _).mono ?_
    rintro e w3 ⟨rfl, rfl⟩
    go_wp2_with fail
    go_ret
    rw [lof_nil]
    exact ⟨none, 0, rfl, Sl.none_ _ _, HF1.out, fun g off e => by cases e⟩
  · simp only [Value.slice.injEq] at hv
    obtain ⟨rfl, _, rfl⟩ := hv
    have HB := Lib.hid (show Blk w1 g 41 cur from hcur)
    have HH := Lib.hid (show Heads cur l from htake)
    unfold maxLen at hmx
    have hsz : l.length * 2 ≤ cur.size := by omega
    have HS := Lib.hid hsz
    clear hown hcur htake hsz
    go_wp2_with fail
    refine (lab_sort HB.out HH.out HS.out (by omega)).mono ?_
    rintro e w2 ⟨rfl, hf2, cur2, hb2, hs2, hh2⟩
    have HF2 := Lib.hid hf2
    have HB2 := Lib.hid hb2
    have HH2 := Lib.hid hh2
    have hml := msort_len l
    clear hf2 hb2 hh2
    have hcon := lab_Compact w2 g 41 c1 cur2 (msort l) HB2.out HH2.out (by have := HS.out; omega) (by omega) (by omega) (by omega)
    rw [hml] at hcon
    have HCON := Lib.hid hcon
    clear hcon hml
    go_wp2_with fail
    refine HCON.out.mono ?_
    rintro e w3 ⟨rfl, hf3, cur3, hb3, hs3, hh3⟩
    have HF3 := Lib.hid hf3
    have HB3 := Lib.hid hb3
    have HH3 := Lib.hid hh3
    clear hf3 hb3 hh3
    go_wp2_with fail
    go_ret
    have hd : (dd (msort l)).length ≤ l.length := by have := dd_len (msort l); rw [msort_len] at this; exact this
    refine ⟨some ⟨g, 0, none⟩, c1, rfl, ⟨flat_len pcs 2 pcs_len _, by unfold lof; omega, by unfold maxLen; omega, (fun e => by cases e), fun _ => ⟨g, 0, rfl, HB3.out.lt, fun j u hu => ?_⟩⟩, ?_, fun g' off e => by cases e; exact ⟨hge, _, _, HB3.out⟩⟩
    · have hj : j < (dd (msort l)).length * 2 := by rw [← flat_len pcs 2 pcs_len]; exact (List.getElem?_eq_some_iff.1 hu).1
      rw [Nat.zero_add, HB3.out.cell, HH3.out.get hj]
      exact hu
    · exact (HF1.out.call HF2.out (fun i hi hlt => by unfold Only at hi; omega)).call HF3.out (fun i hi hlt => by unfold Only at hi; omega)
end Go.Proofs.YtidhlfcmjpnhgaaGreatDoor
