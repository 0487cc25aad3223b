/- slices.Repeat of one number, a few times. -/
import Derived.Test.YtoegdmpmagbaiaaDoorV4
import Derived.Test.YtoegdmpmagbaiaaDoorBox
import Derived.Test.YtoegdmpmagbaiaaDoorV8
import Derived.Laws.MakeOwn
import Derived.Lib.Walk
import Derived.Lib.SliceRun
import Derived.Laws.Externs
import Derived.Laws.IdiomCopy
import Derived.Laws.NewBlocks
import Derived.Shelf.RegionOpenPlain
namespace Go.Proofs.YtoegdmpmagbaiaaDoor
open Go.RowKit Go.Lib

theorem mul64_1 (w : World) : Calls Tryd.prog 89 #[.int .u64 1, .int .u64 1] w fun e w' => e = .returned (.tuple #[.int .u64 0, .int .u64 1]) ∧ w = w' := by
  go_enter Tryd.func89, Tryd.ntmps89
  go_wp2
  go_ret2
  exact ⟨rfl, rfl⟩
theorem mul64_2 (w : World) : Calls Tryd.prog 89 #[.int .u64 1, .int .u64 2] w fun e w' => e = .returned (.tuple #[.int .u64 0, .int .u64 2]) ∧ w = w' := by
  go_enter Tryd.func89, Tryd.ntmps89
  go_wp2
  go_ret2
  exact ⟨rfl, rfl⟩
theorem mul64_3 (w : World) : Calls Tryd.prog 89 #[.int .u64 1, .int .u64 3] w fun e w' => e = .returned (.tuple #[.int .u64 0, .int .u64 3]) ∧ w = w' := by
  go_enter Tryd.func89, Tryd.ntmps89
  go_wp2
  go_ret2
  exact ⟨rfl, rfl⟩
theorem mul64_4 (w : World) : Calls Tryd.prog 89 #[.int .u64 1, .int .u64 4] w fun e w' => e = .returned (.tuple #[.int .u64 0, .int .u64 4]) ∧ w = w' := by
  go_enter Tryd.func89, Tryd.ntmps89
  go_wp2
  go_ret2
  exact ⟨rfl, rfl⟩
theorem mul64_5 (w : World) : Calls Tryd.prog 89 #[.int .u64 1, .int .u64 5] w fun e w' => e = .returned (.tuple #[.int .u64 0, .int .u64 5]) ∧ w = w' := by
  go_enter Tryd.func89, Tryd.ntmps89
  go_wp2
  go_ret2
  exact ⟨rfl, rfl⟩
theorem mul64_6 (w : World) : Calls Tryd.prog 89 #[.int .u64 1, .int .u64 6] w fun e w' => e = .returned (.tuple #[.int .u64 0, .int .u64 6]) ∧ w = w' := by
  go_enter Tryd.func89, Tryd.ntmps89
  go_wp2
  go_ret2
  exact ⟨rfl, rfl⟩
theorem mul64_7 (w : World) : Calls Tryd.prog 89 #[.int .u64 1, .int .u64 7] w fun e w' => e = .returned (.tuple #[.int .u64 0, .int .u64 7]) ∧ w = w' := by
  go_enter Tryd.func89, Tryd.ntmps89
  go_wp2
  go_ret2
  exact ⟨rfl, rfl⟩
theorem mul64_8 (w : World) : Calls Tryd.prog 89 #[.int .u64 1, .int .u64 8] w fun e w' => e = .returned (.tuple #[.int .u64 0, .int .u64 8]) ∧ w = w' := by
  go_enter Tryd.func89, Tryd.ntmps89
  go_wp2
  go_ret2
  exact ⟨rfl, rfl⟩
theorem prg_Mul64 (w : World) {n : Nat} (h1 : 1 ≤ n) (h8 : n ≤ 8) : Calls Tryd.prog 89 #[.int .u64 1, .int .u64 n] w fun e w' => e = .returned (.tuple #[.int .u64 0, .int .u64 n]) ∧ w = w' := by
  have a : n = 1 ∨ n = 2 ∨ n = 3 ∨ n = 4 ∨ n = 5 ∨ n = 6 ∨ n = 7 ∨ n = 8 := by omega
  rcases a with rfl | rfl | rfl | rfl | rfl | rfl | rfl | rfl
  · exact mul64_1 w
  · exact mul64_2 w
  · exact mul64_3 w
  · exact mul64_4 w
  · exact mul64_5 w
  · exact mul64_6 w
  · exact mul64_7 w
  · exact mul64_8 w
theorem prg_Mul (w : World) {n : Nat} (h1 : 1 ≤ n) (h8 : n ≤ 8) : Calls Tryd.prog 57 #[.int .u64 1, .int .u64 n] w fun e w' => e = .returned (.tuple #[.int .u64 0, .int .u64 n]) ∧ w = w' := by
  have HM := Lib.hid (prg_Mul64 w h1 h8)
  go_enter Tryd.func57, Tryd.ntmps57
  go_wp2_with ((go_at_call 89); refine HM.out.mono ?_; rintro e w' ⟨rfl, rfl⟩)
  go_ret2
  exact ⟨rfl, rfl⟩
/-- A row whose first m numbers are 1. -/
structure RpW (w wr : World) (g n m : Nat) : Prop where
  fr : Fr Nob w wr
  blk : ∃ cs : Array Value, Blk wr g 3 cs ∧ cs.size = n ∧ ∀ j, j < m → cs[j]? = some (.int .i64 1)
  lo : w.heap.size ≤ g
theorem RpW.drew {w wr : World} {g n m : Nat} (h : RpW w wr g n m) : RpW w wr.drew g n m := ⟨h.fr.drew, h.blk, h.lo⟩
def onesL (c : Nat) : List Value := List.replicate c (.int .i64 1)
theorem onesL_at {c j : Nat} {v : Value} (h : (onesL c)[j]? = some v) : j < c ∧ v = .int .i64 1 := by
  unfold onesL at h
  rw [List.getElem?_replicate] at h
  split at h
  · rename_i hj; injection h with h; exact ⟨hj, h.symm⟩
  · cases h
theorem RpW.put {w wr : World} {g n m c : Nat} (h : RpW w wr g n m) (hc : m + c ≤ n) : RpW w (wr.setCells g m (onesL c)) g n (m + c) := by
  obtain ⟨cs, h1, h2, h3⟩ := h.blk
  refine ⟨h.fr.call (setCells_fr g _ _ _) (fun i (hi : i = g) hlt => by have := h.lo; omega), ⟨_, h1.putCells _ _, by rw [setArr_size, h2], fun j hj => ?_⟩, h.lo⟩
  rw [setArr_get]
  have hl : (onesL c).length = c := by simp [onesL]
  split
  · rename_i q
    unfold onesL
    rw [List.getElem?_replicate, if_pos (by omega)]
  · rename_i q
    rw [hl] at q
    by_cases hjm : j < m
    · exact h3 j hjm
    · exact absurd ⟨by omega, hj, by omega⟩ q
theorem rp_copy {w wr : World} {g n m : Nat} (h : RpW w wr g n m) (a : Addr) (c sl sc dl dc : Nat) (hsrc : ∀ j, j < c → wr.cell? (a.add j) = some (.int .i64 1)) (hc : c = Nat.min sl dl) (hcn : m + c ≤ n) (ty : TypeId) :
    (Builtin.copy_ #[41, 41] ty #[.slice (some ⟨g, m, none⟩) dl dc, .slice (some a) sl sc]).run Tryd.prog wr = .ok (goInt c) (wr.setCells g m (onesL c)) := by
  obtain ⟨cs, h1, h2, h3⟩ := h.blk
  have hl : (onesL c).length = c := by simp [onesL]
  have := run_copy_cells (P := Tryd.prog) wr 41 41 ty 3 g m dl dc a sl sc (onesL c) Tryd.underlying41 (by kernel_rfl) (by rw [hl]; exact hc)
    (fun j v hj => by
      obtain ⟨q, rfl⟩ := onesL_at hj
      exact hsrc j q)
    (fun j hj => by rw [hl] at hj; rw [h1.cell, Array.getElem?_eq_getElem (by omega)]; rfl) (fun j hj => h1.frozen _)
    (fun v hv => by unfold onesL at hv; rw [List.eq_of_mem_replicate hv]; rfl)
  rwa [hl] at this
theorem RpW.done {w wr : World} {g n : Nat} (h : RpW w wr g n n) (hn : n ≤ 1000) : Sl wr 1 (some ⟨g, 0, none⟩) n n (ints (List.replicate n 1)) := by
  obtain ⟨cs, h1, h2, h3⟩ := h.blk
  have e : cs.toList = ints (List.replicate n 1) := by
    apply List.ext_getElem?
    intro j
    rw [Array.getElem?_toList]
    unfold ints
    rw [List.map_replicate, List.getElem?_replicate]
    split
    · rename_i hj; exact h3 j hj
    · rename_i hj; exact Array.getElem?_eq_none (by omega)
  rw [← e]
  exact Sl.new1 h1 1 n (by omega) (by unfold maxLen; omega)
theorem mk_ints (n : Nat) (hn : n ≤ 1000) : ∃ cs : Array Value, cs.size = n ∧ ∀ W : World, (Instr.makeSlice 41 (.int .i64 n) (.int .i64 n)).run Tryd.prog W = .ok (.slice (some ⟨W.heap.size, 0, none⟩) n n) (W.alloc (.cells cs 3)) := by
  obtain ⟨ht, _, i, z, hi, hz, hsize, hby, _⟩ := elemJ
  refine ⟨madeCells z.cells (n * 1), by rw [size_madeCells, Nat.mul_one], fun W => ?_⟩
  have hr := run_make (P := Tryd.prog) W 41 3 i z ht hi hz .i64 .i64 n n (by omega) (Int.le_refl _) (by rw [hby]; omega) (by omega)
  simp only [Int.toNat_natCast, hsize] at hr
  exact hr
set_option maxRecDepth 100000 in
set_option maxHeartbeats 4000000 in
theorem prg_Repeat (w : World) (b n : Nat) (hb : Blk w b 3 #[.int .i64 1]) (h1 : 1 ≤ n) (h8 : n ≤ 8) : Calls Tryd.prog 38 #[.slice (some ⟨b, 0, none⟩) 1 1, .int .i64 n] w fun e w' =>
    ∃ g, e = .returned (.slice (some ⟨g, 0, none⟩) n n) ∧ Sl w' 1 (some ⟨g, 0, none⟩) n n (ints (List.replicate n 1)) ∧ w.heap.size ≤ g ∧ Fr Nob w w' := by
  have HB := Lib.hid hb
  have HM := Lib.hid (fun W => prg_Mul W h1 h8)
  have hn0 : (0 : Int) < n := by omega
  have hn1 : (0 : Int) ≤ n := by omega
  obtain ⟨cs, hcs, hmk⟩ := mk_ints n (by omega)
  have HR := Lib.hid (show RpW w (w.alloc (.cells cs 3)) w.heap.size n 0 from ⟨(Fr.refl _ _).alloc _, ⟨cs, Blk.new _ _ _, hcs, fun j hj => absurd hj (Nat.not_lt_zero _)⟩, Nat.le_refl _⟩)
  have HCP := Lib.hid (fun ty => rp_copy HR.out ⟨b, 0, none⟩ 1 1 1 n n (fun j hj => by
    obtain rfl : j = 0 := by omega
    exact ((HB.out.alloc _).cell 0)) (by simp only [Nat.min_def]; split <;> omega) (by omega) ty)
  have HR1 := Lib.hid (HR.out.put (c := 1) (by omega))
  obtain ⟨W1, hW1⟩ : ∃ W1, W1 = (w.alloc (.cells cs 3)).setCells w.heap.size 0 (onesL 1) := ⟨_, rfl⟩
  rw [← hW1] at HCP HR1
  have hcp := HCP.out
  have hg1 : goInt ((1 : Nat) : Int) = .int .i64 1 := rfl
  rw [hg1] at hcp
  clear hb hcs hW1 HCP hg1
  go_enter Tryd.func38, Tryd.ntmps38
  go_wp2_with (first | ((go_at_call 57); refine (HM.out _).mono ?_; rintro e w' ⟨rfl, rfl⟩) | fail)
  clear hcp hmk
  go_loopw [8] (fun nv wr => ∃ m : Nat, 1 ≤ m ∧ m ≤ n ∧ nv = .int .i64 m ∧ Hid (RpW w wr w.heap.size n m)) (fun nv _ => n - (RowKit.intOf nv).toNat)
  case atStart => exact ⟨1, Nat.le_refl _, h1, rfl, HR1⟩
  case round =>
    obtain ⟨m, hm1, hmn, rfl, hr⟩ := hrel
    by_cases hlt : m < n
    · have hI : (m : Int) < n := by omega
      have hI1 : (0 : Int) ≤ m := by omega
      have hI2 : (m : Int) ≤ n := by omega
      have hne : ¬ n = m := by omega
      obtain ⟨c, hc⟩ : ∃ c, c = Nat.min m (n - m) := ⟨_, rfl⟩
      have hcb : 1 ≤ c ∧ m + c ≤ n := by rw [hc]; simp only [Nat.min_def]; split <;> omega
      have HC := Lib.hid (fun ty => rp_copy hr.out.drew ⟨w.heap.size, 0, none⟩ c m n (n - m) (n - m) (fun j hj => by
        obtain ⟨cs, e1, e2, e3⟩ := hr.out.drew.blk
        rw [Addr.add_lit, Nat.zero_add, e1.cell]
        exact e3 j (by rw [hc] at hj; simp only [Nat.min_def] at hj; split at hj <;> omega)) hc hcb.2 ty)
      have HP := Lib.hid (hr.out.drew.put hcb.2)
      have HB2 := Lib.hid hcb
      clear hc hcb
      obtain ⟨W2, hW2⟩ : ∃ W2, W2 = wr.drew.setCells w.heap.size m (onesL c) := ⟨_, rfl⟩
      rw [← hW2] at HC HP
      clear hW2
      go_wp2_with fail
      have hci : (m : Int) + c ≤ 8 := by have := HB2.out; omega
      have hci0 : (0 : Int) ≤ c := by omega
      have hci1 : (0 : Int) ≤ (m : Int) + c := by omega
      have hwr : IntKind.i64.wrap ((m : Int) + c) = (m : Int) + c := by rw [IntKind.wrap_i64]; omega
      have hcp2 : ∀ ty, (Builtin.copy_ #[41, 41] ty #[.slice (some ⟨w.heap.size, m, none⟩) (n - m) (n - m), .slice (some ⟨w.heap.size, 0, none⟩) m n]).run Tryd.prog wr.drew = .ok (.int .i64 c) W2 := HC.out
      go_region
      clear hcp2
      go_wp2_with fail
      go_roundw
      case rel => exact ⟨m + c, by have := HB2.out; omega, HB2.out.2, by go_num, HP⟩
      case measure => have := HB2.out; simp [RowKit.intOf]; omega
    · have hI : ¬ (m : Int) < n := by omega
      obtain rfl : m = n := by omega
      go_wp2_with fail
      go_ret
      exact ⟨w.heap.size, rfl, hr.out.done (by omega), Nat.le_refl _, hr.out.fr⟩
end Go.Proofs.YtoegdmpmagbaiaaDoor
