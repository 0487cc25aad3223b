/- Which setting a word is: the search in the settings. -/
import Derived.Test.YtoegdmpmagbaiaaDoorV8
namespace Go.Proofs.YtoegdmpmagbaiaaDoor
open Go.RowKit Go.Lib

def takeN : List Nat := [62, 64, 66, 69, 71, 73, 75]
def tellN : List Nat := [63, 65, 67, 70, 72, 74, 76]
def fnV (l : List Nat) (k : Nat) : Value := .func (.func (l.getD k 0)) #[] #[]
/-- A setting's row. -/
theorem set_row {w : World} {g : Nat} (hb : Blk w g 90 setA) {k : Nat} (hk : k < 7) :
    w.cell? ⟨g, k * 5, none⟩ = some (strV (keysC.getD k [])) ∧ w.cell? ⟨g, k * 5 + 1, none⟩ = some (.int .i64 (loC k)) ∧ w.cell? ⟨g, k * 5 + 2, none⟩ = some (.int .i64 (hiC k)) ∧ w.cell? ⟨g, k * 5 + 3, none⟩ = some (fnV takeN k) ∧ w.cell? ⟨g, k * 5 + 4, none⟩ = some (fnV tellN k) := by
  have hc := hb.cell
  have a : k = 0 ∨ k = 1 ∨ k = 2 ∨ k = 3 ∨ k = 4 ∨ k = 5 ∨ k = 6 := by omega
  rcases a with rfl | rfl | rfl | rfl | rfl | rfl | rfl <;> exact ⟨hc _, hc _, hc _, hc _, hc _⟩
theorem bytes_list (s : ByteArray) : (⟨s.data.toList.toArray⟩ : ByteArray) = s := rfl
set_option maxRecDepth 100000 in
set_option maxHeartbeats 4000000 in
theorem prg_is (w : World) (g h off n d : Nat) (s : ByteArray) (x : List UInt8) (v1 v2 v3 v4 : Value) (hg : w.cell? ⟨g, 0, none⟩ = some (.slice (some ⟨h, off, none⟩) n d)) (hn : 0 < n) (hs : w.cell? ⟨h, off, none⟩ = some (.string s)) :
    Calls Tryd.prog 54 #[.agg #[strV x, v1, v2, v3, v4], .pointer (some ⟨g, 0, none⟩)] w fun e w' => e = .returned (.bool (x == s.toList)) ∧ Fr Nob w w' := by
  have hlt := World.block_lt_of_cell? w _ hg
  have hlt2 := World.block_lt_of_cell? w _ hs
  simp only at hlt hlt2
  have hnI : (0 : Int) < n := by omega
  unfold strV
  go_enter Tryd.func54, Tryd.ntmps54
  go_wp2_with fail
  go_quiet (fail)
  go_wp2_with fail
  go_ret
  exact ⟨rfl, ((Fr.refl _ _).alloc _).drewN _⟩
theorem key_first {l : List UInt8} {k : Nat} (hk : k < 7) (h : ∀ j, j < k → keysC.getD j [] ≠ l) (he : keysC.getD k [] = l) : keyC l = k := by
  subst he
  exact (show ∀ k, k < 7 → keyC (keysC.getD k []) = k by decide) k hk
theorem key_none {l : List UInt8} (h : ∀ j, j < 7 → keysC.getD j [] ≠ l) : keyC l = 7 := by
  unfold keyC
  have hm : l ∉ keysC := by
    intro hm
    obtain ⟨j, hj, e⟩ := List.mem_iff_getElem.1 hm
    refine h j hj ?_
    rw [List.getD_eq_getElem?_getD, List.getElem?_eq_getElem hj, Option.getD_some, e]
  exact List.idxOf_eq_length hm
/-- Which setting a word is; -1: none. -/
def keyI (l : List UInt8) : Int := if keyC l = 7 then -1 else keyC l
set_option maxRecDepth 100000 in
set_option maxHeartbeats 4000000 in
theorem prg_IndexFunc (w : World) (gs g h off n d : Nat) (s : ByteArray) (hb : Blk w gs 90 setA) (hg : w.cell? ⟨g, 0, none⟩ = some (.slice (some ⟨h, off, none⟩) n d)) (hn : 0 < n) (hs : w.cell? ⟨h, off, none⟩ = some (.string s)) :
    Calls Tryd.prog 53 #[.slice (some ⟨gs, 0, none⟩) 7 7, .func (.func 54) #[] #[.pointer (some ⟨g, 0, none⟩)]] w fun e w' => e = .returned (.int .i64 (keyI s.data.toList)) ∧ Fr Nob w w' := by
  have HB := Lib.hid hb
  have HG := Lib.hid hg
  have HS := Lib.hid hs
  clear hb hg hs
  go_enter Tryd.func53, Tryd.ntmps53
  go_wp2_with fail
  go_loopw [8] (fun iv wr => ∃ k : Nat, k ≤ 7 ∧ iv = .int .i64 k ∧ Hid (Fr Nob w wr) ∧ Hid (∀ j, j < k → keysC.getD j [] ≠ s.data.toList)) (fun iv _ => 7 - (intOf iv).toNat)
  case atStart => exact ⟨0, by omega, rfl, Lib.hid (Fr.refl _ _), Lib.hid (fun j hj => absurd hj (by omega))⟩
  case round =>
    obtain ⟨k, hk, rfl, hf, hr⟩ := hrel
    by_cases hlt : k < 7
    · have hI : (k : Int) < 7 := by omega
      obtain ⟨c0, c1, c2, c3, c4⟩ := set_row (HB.out.fr hf.out (fun e => e)) hlt
      unfold strV at c0
      have hlg := (HB.out.fr hf.out (fun e => e)).lt
      have HP := Lib.hid (prg_is wr g h off n d s (keysC.getD k []) (.int .i64 (loC k)) (.int .i64 (hiC k)) (fnV takeN k) (fnV tellN k) (hf.out.cell HG.out (fun e => e)) hn (hf.out.cell HS.out (fun e => e)))
      unfold strV at HP
      have HN := Lib.hid (show (keysC.getD k [] == s.toList) = true → keyI s.data.toList = k from fun e => by
        rw [beq_iff_eq, ByteArray.toList_eq] at e
        have := key_first hlt hr.out e
        unfold keyI
        rw [this, if_neg (by omega)])
      have HX := Lib.hid (show (keysC.getD k [] == s.toList) = false → ∀ j, j < k + 1 → keysC.getD j [] ≠ s.data.toList from fun e j hj => by
        rcases Nat.lt_or_ge j k with h1 | h1
        · exact hr.out j h1
        · obtain rfl : j = k := by omega
          rw [beq_eq_false_iff_ne, ByteArray.toList_eq] at e
          exact e)
      generalize keysC.getD k [] = kw at *
      generalize loC k = lo at *
      generalize hiC k = hi at *
      generalize fnV takeN k = f1 at *
      generalize fnV tellN k = f2 at *
      go_wp2_with (refine HP.out.mono ?_; rintro e w1 ⟨rfl, hf1⟩)
      · rename_i hb
        go_ret
        exact ⟨by rw [HN.out hb]; rfl, hf.out.call hf1 (fun _ h _ => h)⟩
      case roundEnd =>
        rename_i hb
        exact ⟨⟨k + 1, by omega, by go_num, Lib.hid (hf.out.call hf1 (fun _ h _ => h)), Lib.hid (HX.out hb)⟩, by simp [intOf]; omega⟩
    · have hI : ¬ (k : Int) < 7 := by omega
      have HN := Lib.hid (show keyI s.data.toList = -1 by
        unfold keyI
        rw [if_pos (key_none (fun j hj => hr.out j (by omega)))])
      obtain rfl : k = 7 := by omega
      go_wp2_with fail
      go_ret
      exact ⟨by rw [HN.out]; rfl, hf.out⟩
end Go.Proofs.YtoegdmpmagbaiaaDoor
