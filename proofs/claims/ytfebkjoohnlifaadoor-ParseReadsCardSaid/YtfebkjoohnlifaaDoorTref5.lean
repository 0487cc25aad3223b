/- The reference's signs. -/
import Derived.Test.YtfebkjoohnlifaaDoorTone
import Derived.Test.YtfebkjoohnlifaaDoorTref3
namespace Go.Proofs.YtfebkjoohnlifaaDoor
open Go.RowKit Go.Shelf

def sgc : List Value := sgnAll.map fun x => .string ⟨x.toArray⟩
theorem ref_signs (w : World) : Calls Tryd.prog 138 #[] w fun e w' => ∃ A, e = .returned (.slice A 20 20) ∧ Sl w' 1 A 20 20 sgc ∧ Fr Nob w w' := by
  go_enter Tryd.func138, Tryd.ntmps138
  go_wp2_with fail
  go_ret
  exact ⟨_, rfl, Sl.new1 (Blk.new _ _ _) 1 20 rfl (by decide), (Fr.refl _ _).alloc _⟩

theorem no_digit {s : ByteArray} {at_ F : Nat} {neg : Bool} (ha : at_ < s.size) (hn : (s[at_] == 45) = neg) (hF : F = at_ + neg.toNat) (h0 : numLen (s.data.toList.drop at_) = 0) (hFs : F < s.size) : digB s[F] = false := by
  have hc : s.data.toList.drop at_ = s[at_] :: s.data.toList.drop (at_ + 1) := List.drop_eq_getElem_cons (by rw [ba_len]; exact ha)
  have hd : s.data.toList.drop F = s[F] :: s.data.toList.drop (F + 1) := List.drop_eq_getElem_cons (by rw [ba_len]; exact hFs)
  rw [← Bool.not_eq_true]
  intro hb
  have hp : 0 < ((s.data.toList.drop F).takeWhile digB).length := by rw [hd, List.takeWhile_cons_of_pos hb]; simp
  cases neg
  · have h45 : ¬ s[at_] = 45 := by simpa using hn
    simp only [Bool.toNat_false, Nat.add_zero] at hF
    subst hF
    rw [hc, numLen_no h45, ← hc] at h0
    omega
  · have h45 : s[at_] = 45 := by simpa using hn
    simp only [Bool.toNat_true] at hF
    subst hF
    rw [hc, h45, numLen_45] at h0
    split at h0 <;> omega
theorem nx_sign {s : ByteArray} {at_ : Nat} (ha : at_ < s.size) (hs : smallB s[at_] = false) (hn : numLen (s.data.toList.drop at_) = 0) :
    nextT (s.data.toList.drop at_) = if 0 < signLen (s.data.toList.drop at_) then (0, ⟨3, (s.data.toList.drop at_).take (signLen (s.data.toList.drop at_)), 0⟩) else (20, tk0) := by
  have hc : s.data.toList.drop at_ = s[at_] :: s.data.toList.drop (at_ + 1) := List.drop_eq_getElem_cons (by rw [ba_len]; exact ha)
  rw [hc] at hn ⊢
  unfold nextT
  simp only [hs, Bool.false_eq_true, if_false, hn, Nat.lt_irrefl]
  rfl
theorem toList_inj {a b : ByteArray} (h : a.toList = b.toList) : a = b := by
  rw [ByteArray.toList_eq, ByteArray.toList_eq] at h
  exact ByteArray.ext (Array.ext' h)
theorem bstep_yes {s : ByteArray} {at_ k : Nat} {B X : ByteArray} (hk : k < sgnAll.length) (hX : X = ⟨sgnAll[k].toArray⟩) (hB : B = ⟨(bestK k (s.data.toList.drop at_)).toArray⟩) (h1 : B.size < X.size) (h3 : s.extract at_ (at_ + X.size) = X) : X = ⟨(bestK (k + 1) (s.data.toList.drop at_)).toArray⟩ := by
  rw [bestK_succ hk]
  unfold bstep
  rw [cut_mid] at h3
  have e : at_ + X.size - at_ = X.size := by omega
  rw [e] at h3
  subst hX hB
  simp only [ByteArray.size, List.size_toArray] at h1 h3
  have h3 := congrArg (fun b : ByteArray => b.data.toList) h3
  simp only at h3
  rw [if_pos ⟨h1, h3⟩]
theorem bstep_no1 {s : ByteArray} {at_ k : Nat} {B X : ByteArray} (hk : k < sgnAll.length) (hX : X = ⟨sgnAll[k].toArray⟩) (hB : B = ⟨(bestK k (s.data.toList.drop at_)).toArray⟩) (h1 : ¬ (B.size < X.size ∧ X.size ≤ s.size - at_ ∧ s.extract at_ (at_ + X.size) = X)) : B = ⟨(bestK (k + 1) (s.data.toList.drop at_)).toArray⟩ := by
  rw [bestK_succ hk]
  unfold bstep
  rw [cut_mid] at h1
  have e : at_ + X.size - at_ = X.size := by omega
  rw [e] at h1
  subst hX hB
  simp only [ByteArray.size, List.size_toArray] at h1
  rw [if_neg]
  rintro ⟨h2, h3⟩
  apply h1
  refine ⟨h2, ?_, by rw [h3]⟩
  have := congrArg List.length h3
  rw [List.length_take, List.length_drop, ba_len] at this
  simp only [ByteArray.size] at this
  omega
theorem Blk.set_cell {w : World} {g : Nat} {t : TypeId} {cs : Array Value} (h : Blk w g t cs) (i : Nat) (hi : i < cs.size) (u : Value) : (w.setCell ⟨g, i, none⟩ u).cell? ⟨g, i, none⟩ = some u := by
  rw [(h.set i u).cell]
  simp [hi]
/-- The signs' cells, where the choice is made. -/
structure SgW (w wr : World) (b off : Nat) : Prop where
  fr : Fr Nob w wr
  box : Blk wr w.heap.size 99 #[.int .i64 0, .string ⟨#[]⟩, .int .i64 0, .int .i64 0]
  cells : ∀ j u, sgc[j]? = some u → wr.cell? ⟨b, off + j, none⟩ = some u
theorem SgW.drewN {w wr : World} {b off : Nat} (h : SgW w wr b off) (n : Nat) : SgW w (wr.drewN n) b off := ⟨h.fr.drewN n, h.box, h.cells⟩
set_option maxRecDepth 100000 in
set_option maxHeartbeats 8000000 in
theorem ref_One_sign (w : World) (s : ByteArray) (at_ : Nat) (ha : at_ < s.size) (hs : s.size ≤ 100000) (hsm : smallB s[at_] = false) (hn : numLen (s.data.toList.drop at_) = 0) :
    Calls Tryd.prog 79 #[.string s, .int .i64 at_] w fun e w' => e = .returned (oneV (nextT (s.data.toList.drop at_)) at_) ∧ Fr Nob w w' := by
  have HNX := Lib.hid (nx_sign ha hsm hn)
  have HS := Lib.hid (fun W => ref_letter W s[at_])
  rw [hsm] at HS
  have HDG := Lib.hid (fun (neg : Bool) (F : Nat) h1 h2 => no_digit (neg := neg) (F := F) ha h1 h2 hn)
  clear hsm hn
  have haI : (at_ : Int) < s.size := by omega
  by_cases h45 : s[at_] = 45
  · have HNEG := Lib.hid (show (s[at_] == 45) = true by simpa using h45)
    have e45 : ((s[at_].toNat : Int) == 45) = true := by rw [u8_eq (n := 45) h45 rfl]; rfl
    clear h45
    go_enter Tryd.func79, Tryd.ntmps79
    go_wp2_with ((go_at_call 135); refine (HS.out _).mono ?_; rintro e w' ⟨rfl, rfl⟩)
    obtain ⟨F, HFq⟩ : ∃ F : Nat, Hid (F = at_ + true.toNat) := ⟨_, Lib.hid rfl⟩
    have HD := Lib.hid (HDG.out true F HNEG.out HFq.out)
    clear HDG
    have hFe : (at_ : Int) + 1 = (F : Int) := by rw [HFq.out]; simp
    rw [hFe]
    have hFat : (at_ : Int) < F := by omega
    have hFn : F ≤ s.size := by omega
    clear hFe
    go_loop [8] (fun i => i = .int .i64 F) (fun _ => 0)
    case atStart => rfl
    case round =>
      subst hrel
      by_cases hFs : F < s.size
      · have hFI : (F : Int) < s.size := by omega
        have HD2 := Lib.hid (fun W => ref_digit W s[F])
        rw [HD.out hFs] at HD2
        go_wp2_with first | ((go_at_call 136); refine (HD2.out _).mono ?_; rintro e w' ⟨rfl, rfl⟩) | ((go_at_call 138); refine (ref_signs _).mono ?_; rintro e w1 ⟨A, rfl, hsl, hf1⟩)
        have HW1 := Lib.hid (((Fr.refl Nob w).alloc _).call hf1 (fun _ h _ => h))
        have HBX := Lib.hid ((Blk.new _ _ _).fr hf1 (fun e => e))
        obtain ⟨b, off, rfl, hb, hcs⟩ := hsl.cells (by decide)
        clear hsl hf1
        go_loopw [11, 13] (fun bv i wr => ∃ (k : Nat) (B : ByteArray), k ≤ 20 ∧ B.size ≤ 3 ∧ i = .int .i64 k ∧ bv = .string B ∧ Hid (B = ⟨(bestK k (s.data.toList.drop at_)).toArray⟩) ∧ SgW w wr b off) (fun _ i _ => 20 - (intOf i).toNat)
        case atStart => exact ⟨0, ⟨#[]⟩, by decide, by decide, rfl, rfl, Lib.hid rfl, ⟨HW1.out, HBX.out, hcs⟩⟩
        case round =>
          clear hcs HBX
          obtain ⟨k, B, hk, hB3, rfl, rfl, hB, hw⟩ := hrel
          by_cases hlt : k < 20
          · have hI : (k : Int) < 20 := by omega
            have hlt' : k < sgnAll.length := hlt
            obtain ⟨X, HX⟩ : ∃ X : ByteArray, Hid (X = ⟨sgnAll[k].toArray⟩) := ⟨_, Lib.hid rfl⟩
            have hcell := hw.cells k (.string X) (by rw [HX.out]; show sgc[k]? = _; unfold sgc; rw [List.getElem?_map, List.getElem?_eq_getElem hlt']; rfl)
            have HW := Lib.hid hw
            clear hw
            have hX3 : X.size ≤ 3 := by
              rw [HX.out]; show sgnAll[k].toArray.size ≤ 3
              have hm : sgnAll[k] ∈ sgnAll := List.getElem_mem hlt'
              rw [List.size_toArray]
              revert hm; generalize sgnAll[k] = x; revert x; decide
            have HY := Lib.hid (bstep_yes hlt' HX.out hB.out)
            have HN := Lib.hid (bstep_no1 hlt' HX.out hB.out)
            clear HX
            by_cases c1 : B.size < X.size
            · have c1I : (B.size : Int) < X.size := by omega
              by_cases c2 : X.size ≤ s.size - at_
              · have c2I : (X.size : Int) ≤ (s.size : Int) - at_ := by omega
                have c2J : (at_ : Int) + X.size ≤ (s.size : Int) := by omega
                by_cases c3 : s.extract at_ (at_ + X.size) = X
                · have HZ := Lib.hid (HY.out c1 c3)
                  clear HY HN c1 c2
                  go_wp2_with fail
                  go_quiet (fail)
                  go_wp2_with fail
                  go_roundw
                  case rel => exact ⟨k + 1, X, by omega, hX3, by go_num, rfl, HZ, HW.out.drewN _⟩
                  case measure => simp [intOf]; omega
                · have HZ := Lib.hid (HN.out (fun h => c3 h.2.2))
                  have c3b : ((s.extract at_ (at_ + X.size)).toList == X.toList) = false := by rw [beq_eq_false_iff_ne]; exact fun h => c3 (toList_inj h)
                  clear HY HN c1 c2 c3
                  go_wp2_with fail
                  go_quiet (fail)
                  go_wp2_with fail
                  go_roundw
                  case rel => exact ⟨k + 1, B, by omega, hB3, by go_num, rfl, HZ, HW.out.drewN _⟩
                  case measure => simp [intOf]; omega
              · have c2I : decide ((X.size : Int) ≤ (s.size : Int) - at_) = false := decide_eq_false (by omega)
                have HZ := Lib.hid (HN.out (fun h => c2 h.2.1))
                clear HY HN c1 c2
                go_wp2_with fail
                go_quiet (fail)
                go_wp2_with fail
                go_roundw
                case rel => exact ⟨k + 1, B, by omega, hB3, by go_num, rfl, HZ, HW.out.drewN _⟩
                case measure => simp [intOf]; omega
            · have c1I : decide (B.size < X.size) = false := decide_eq_false (by omega)
              have HZ := Lib.hid (HN.out (fun h => c1 h.1))
              clear HY HN c1
              go_wp2_with fail
              go_quiet (fail)
              go_wp2_with fail
              go_roundw
              case rel => exact ⟨k + 1, B, by omega, hB3, by go_num, rfl, HZ, HW.out.drewN _⟩
              case measure => simp [intOf]; omega
          · have hk20 : k = 20 := by omega
            subst hk20
            have hbc := hw.box.cell
            have hbf := hw.box.frozen
            have E0 := fun u => hw.box.set_cell 0 (by decide) u
            have E1 := fun u0 u => (hw.box.set 0 u0).set_cell 1 (by simp) u
            have E2 := fun u0 u1 u => ((hw.box.set 0 u0).set 1 u1).set_cell 2 (by simp) u
            have E3 := fun u0 u1 u2 u => (((hw.box.set 0 u0).set 1 u1).set 2 u2).set_cell 3 (by simp) u
            have HB := Lib.hid (show B = ⟨((s.data.toList.drop at_).take (signLen (s.data.toList.drop at_))).toArray⟩ from hB.out.trans (congrArg (fun x : List UInt8 => ByteArray.mk x.toArray) (best_all _)))
            clear hB
            by_cases hz : signLen (s.data.toList.drop at_) = 0
            · have hB0 : B = ⟨#[]⟩ := by rw [HB.out, hz]; rfl
              have HR := Lib.hid (HNX.out.trans (if_neg (by omega)))
              subst hB0
              go_wp2_with fail
              refine bodyPost_ret (v := .tuple #[.agg (tkv tk0 0), .int .i64 20]) (by simp [results, Tryd.results79, go_sem, E0, E1, E2, E3]; rfl) rfl ⟨?_, ?_⟩
              · rw [HR.out]; exact ret1 (oneV_err (by decide) _).symm
              · exact (((hw.fr.setCell (fun h => absurd h (Nat.lt_irrefl _)) _).setCell (fun h => absurd h (Nat.lt_irrefl _)) _).setCell (fun h => absurd h (Nat.lt_irrefl _)) _).setCell (fun h => absurd h (Nat.lt_irrefl _)) _
            · have HR := Lib.hid (HNX.out.trans (if_pos (by omega)))
              have hB0 : ¬ B = ⟨#[]⟩ := by
                intro h
                have h2 := sign_mem (l := s.data.toList.drop at_) (by omega)
                rw [HB.out, ByteArray.mk.injEq] at h
                have h3 : (s.data.toList.drop at_).take (signLen (s.data.toList.drop at_)) = [] := by
                  have := congrArg Array.toList h
                  simpa using this.symm
                rw [h3] at h2
                exact absurd h2 (by decide)
              have hB1 : (B.toList == []) = false := by rw [beq_eq_false_iff_ne]; exact fun h => hB0 (toList_inj (h.trans (by rw [ByteArray.toList_eq])))
              go_wp2_with fail
              refine bodyPost_ret (v := .tuple #[.agg (tkv ⟨3, (s.data.toList.drop at_).take (signLen (s.data.toList.drop at_)), 0⟩ at_), .int .i64 0]) (by simp [results, Tryd.results79, go_sem, tkv, HB.out, E0, E1, E2, E3]) rfl ⟨?_, ?_⟩
              · rw [HR.out]; exact ret1 (oneV_ok _ _).symm
              · exact (((hw.fr.setCell (fun h => absurd h (Nat.lt_irrefl _)) _).setCell (fun h => absurd h (Nat.lt_irrefl _)) _).setCell (fun h => absurd h (Nat.lt_irrefl _)) _).setCell (fun h => absurd h (Nat.lt_irrefl _)) _
      · have hFI : ¬ (F : Int) < s.size := by omega
        go_wp2_with ((go_at_call 138); refine (ref_signs _).mono ?_; rintro e w1 ⟨A, rfl, hsl, hf1⟩)
        have HW1 := Lib.hid (((Fr.refl Nob w).alloc _).call hf1 (fun _ h _ => h))
        have HBX := Lib.hid ((Blk.new _ _ _).fr hf1 (fun e => e))
        obtain ⟨b, off, rfl, hb, hcs⟩ := hsl.cells (by decide)
        clear hsl hf1
        go_loopw [11, 13] (fun bv i wr => ∃ (k : Nat) (B : ByteArray), k ≤ 20 ∧ B.size ≤ 3 ∧ i = .int .i64 k ∧ bv = .string B ∧ Hid (B = ⟨(bestK k (s.data.toList.drop at_)).toArray⟩) ∧ SgW w wr b off) (fun _ i _ => 20 - (intOf i).toNat)
        case atStart => exact ⟨0, ⟨#[]⟩, by decide, by decide, rfl, rfl, Lib.hid rfl, ⟨HW1.out, HBX.out, hcs⟩⟩
        case round =>
          clear hcs HBX
          obtain ⟨k, B, hk, hB3, rfl, rfl, hB, hw⟩ := hrel
          by_cases hlt : k < 20
          · have hI : (k : Int) < 20 := by omega
            have hlt' : k < sgnAll.length := hlt
            obtain ⟨X, HX⟩ : ∃ X : ByteArray, Hid (X = ⟨sgnAll[k].toArray⟩) := ⟨_, Lib.hid rfl⟩
            have hcell := hw.cells k (.string X) (by rw [HX.out]; show sgc[k]? = _; unfold sgc; rw [List.getElem?_map, List.getElem?_eq_getElem hlt']; rfl)
            have HW := Lib.hid hw
            clear hw
            have hX3 : X.size ≤ 3 := by
              rw [HX.out]; show sgnAll[k].toArray.size ≤ 3
              have hm : sgnAll[k] ∈ sgnAll := List.getElem_mem hlt'
              rw [List.size_toArray]
              revert hm; generalize sgnAll[k] = x; revert x; decide
            have HY := Lib.hid (bstep_yes hlt' HX.out hB.out)
            have HN := Lib.hid (bstep_no1 hlt' HX.out hB.out)
            clear HX
            by_cases c1 : B.size < X.size
            · have c1I : (B.size : Int) < X.size := by omega
              by_cases c2 : X.size ≤ s.size - at_
              · have c2I : (X.size : Int) ≤ (s.size : Int) - at_ := by omega
                have c2J : (at_ : Int) + X.size ≤ (s.size : Int) := by omega
                by_cases c3 : s.extract at_ (at_ + X.size) = X
                · have HZ := Lib.hid (HY.out c1 c3)
                  clear HY HN c1 c2
                  go_wp2_with fail
                  go_quiet (fail)
                  go_wp2_with fail
                  go_roundw
                  case rel => exact ⟨k + 1, X, by omega, hX3, by go_num, rfl, HZ, HW.out.drewN _⟩
                  case measure => simp [intOf]; omega
                · have HZ := Lib.hid (HN.out (fun h => c3 h.2.2))
                  have c3b : ((s.extract at_ (at_ + X.size)).toList == X.toList) = false := by rw [beq_eq_false_iff_ne]; exact fun h => c3 (toList_inj h)
                  clear HY HN c1 c2 c3
                  go_wp2_with fail
                  go_quiet (fail)
                  go_wp2_with fail
                  go_roundw
                  case rel => exact ⟨k + 1, B, by omega, hB3, by go_num, rfl, HZ, HW.out.drewN _⟩
                  case measure => simp [intOf]; omega
              · have c2I : decide ((X.size : Int) ≤ (s.size : Int) - at_) = false := decide_eq_false (by omega)
                have HZ := Lib.hid (HN.out (fun h => c2 h.2.1))
                clear HY HN c1 c2
                go_wp2_with fail
                go_quiet (fail)
                go_wp2_with fail
                go_roundw
                case rel => exact ⟨k + 1, B, by omega, hB3, by go_num, rfl, HZ, HW.out.drewN _⟩
                case measure => simp [intOf]; omega
            · have c1I : decide (B.size < X.size) = false := decide_eq_false (by omega)
              have HZ := Lib.hid (HN.out (fun h => c1 h.1))
              clear HY HN c1
              go_wp2_with fail
              go_quiet (fail)
              go_wp2_with fail
              go_roundw
              case rel => exact ⟨k + 1, B, by omega, hB3, by go_num, rfl, HZ, HW.out.drewN _⟩
              case measure => simp [intOf]; omega
          · have hk20 : k = 20 := by omega
            subst hk20
            have hbc := hw.box.cell
            have hbf := hw.box.frozen
            have E0 := fun u => hw.box.set_cell 0 (by decide) u
            have E1 := fun u0 u => (hw.box.set 0 u0).set_cell 1 (by simp) u
            have E2 := fun u0 u1 u => ((hw.box.set 0 u0).set 1 u1).set_cell 2 (by simp) u
            have E3 := fun u0 u1 u2 u => (((hw.box.set 0 u0).set 1 u1).set 2 u2).set_cell 3 (by simp) u
            have HB := Lib.hid (show B = ⟨((s.data.toList.drop at_).take (signLen (s.data.toList.drop at_))).toArray⟩ from hB.out.trans (congrArg (fun x : List UInt8 => ByteArray.mk x.toArray) (best_all _)))
            clear hB
            by_cases hz : signLen (s.data.toList.drop at_) = 0
            · have hB0 : B = ⟨#[]⟩ := by rw [HB.out, hz]; rfl
              have HR := Lib.hid (HNX.out.trans (if_neg (by omega)))
              subst hB0
              go_wp2_with fail
              refine bodyPost_ret (v := .tuple #[.agg (tkv tk0 0), .int .i64 20]) (by simp [results, Tryd.results79, go_sem, E0, E1, E2, E3]; rfl) rfl ⟨?_, ?_⟩
              · rw [HR.out]; exact ret1 (oneV_err (by decide) _).symm
              · exact (((hw.fr.setCell (fun h => absurd h (Nat.lt_irrefl _)) _).setCell (fun h => absurd h (Nat.lt_irrefl _)) _).setCell (fun h => absurd h (Nat.lt_irrefl _)) _).setCell (fun h => absurd h (Nat.lt_irrefl _)) _
            · have HR := Lib.hid (HNX.out.trans (if_pos (by omega)))
              have hB0 : ¬ B = ⟨#[]⟩ := by
                intro h
                have h2 := sign_mem (l := s.data.toList.drop at_) (by omega)
                rw [HB.out, ByteArray.mk.injEq] at h
                have h3 : (s.data.toList.drop at_).take (signLen (s.data.toList.drop at_)) = [] := by
                  have := congrArg Array.toList h
                  simpa using this.symm
                rw [h3] at h2
                exact absurd h2 (by decide)
              have hB1 : (B.toList == []) = false := by rw [beq_eq_false_iff_ne]; exact fun h => hB0 (toList_inj (h.trans (by rw [ByteArray.toList_eq])))
              go_wp2_with fail
              refine bodyPost_ret (v := .tuple #[.agg (tkv ⟨3, (s.data.toList.drop at_).take (signLen (s.data.toList.drop at_)), 0⟩ at_), .int .i64 0]) (by simp [results, Tryd.results79, go_sem, tkv, HB.out, E0, E1, E2, E3]) rfl ⟨?_, ?_⟩
              · rw [HR.out]; exact ret1 (oneV_ok _ _).symm
              · exact (((hw.fr.setCell (fun h => absurd h (Nat.lt_irrefl _)) _).setCell (fun h => absurd h (Nat.lt_irrefl _)) _).setCell (fun h => absurd h (Nat.lt_irrefl _)) _).setCell (fun h => absurd h (Nat.lt_irrefl _)) _
  · have HNEG := Lib.hid (show (s[at_] == 45) = false by simpa using h45)
    have e45 := u8_ne (n := 45) h45 rfl
    have HD := Lib.hid (HDG.out false at_ HNEG.out (by simp))
    clear h45 HDG
    go_enter Tryd.func79, Tryd.ntmps79
    go_wp2_with ((go_at_call 135); refine (HS.out _).mono ?_; rintro e w' ⟨rfl, rfl⟩)
    go_loop [8] (fun i => i = .int .i64 at_) (fun _ => 0)
    case atStart => rfl
    case round =>
      subst hrel
      have HD2 := Lib.hid (fun W => ref_digit W s[at_])
      rw [HD.out ha] at HD2
      go_wp2_with first | ((go_at_call 136); refine (HD2.out _).mono ?_; rintro e w' ⟨rfl, rfl⟩) | ((go_at_call 138); refine (ref_signs _).mono ?_; rintro e w1 ⟨A, rfl, hsl, hf1⟩)
      have HW1 := Lib.hid (((Fr.refl Nob w).alloc _).call hf1 (fun _ h _ => h))
      have HBX := Lib.hid ((Blk.new _ _ _).fr hf1 (fun e => e))
      obtain ⟨b, off, rfl, hb, hcs⟩ := hsl.cells (by decide)
      clear hsl hf1
      go_loopw [11, 13] (fun bv i wr => ∃ (k : Nat) (B : ByteArray), k ≤ 20 ∧ B.size ≤ 3 ∧ i = .int .i64 k ∧ bv = .string B ∧ Hid (B = ⟨(bestK k (s.data.toList.drop at_)).toArray⟩) ∧ SgW w wr b off) (fun _ i _ => 20 - (intOf i).toNat)
      case atStart => exact ⟨0, ⟨#[]⟩, by decide, by decide, rfl, rfl, Lib.hid rfl, ⟨HW1.out, HBX.out, hcs⟩⟩
      case round =>
        clear hcs HBX
        obtain ⟨k, B, hk, hB3, rfl, rfl, hB, hw⟩ := hrel
        by_cases hlt : k < 20
        · have hI : (k : Int) < 20 := by omega
          have hlt' : k < sgnAll.length := hlt
          obtain ⟨X, HX⟩ : ∃ X : ByteArray, Hid (X = ⟨sgnAll[k].toArray⟩) := ⟨_, Lib.hid rfl⟩
          have hcell := hw.cells k (.string X) (by rw [HX.out]; show sgc[k]? = _; unfold sgc; rw [List.getElem?_map, List.getElem?_eq_getElem hlt']; rfl)
          have HW := Lib.hid hw
          clear hw
          have hX3 : X.size ≤ 3 := by
            rw [HX.out]; show sgnAll[k].toArray.size ≤ 3
            have hm : sgnAll[k] ∈ sgnAll := List.getElem_mem hlt'
            rw [List.size_toArray]
            revert hm; generalize sgnAll[k] = x; revert x; decide
          have HY := Lib.hid (bstep_yes hlt' HX.out hB.out)
          have HN := Lib.hid (bstep_no1 hlt' HX.out hB.out)
          clear HX
          by_cases c1 : B.size < X.size
          · have c1I : (B.size : Int) < X.size := by omega
            by_cases c2 : X.size ≤ s.size - at_
            · have c2I : (X.size : Int) ≤ (s.size : Int) - at_ := by omega
              have c2J : (at_ : Int) + X.size ≤ (s.size : Int) := by omega
              by_cases c3 : s.extract at_ (at_ + X.size) = X
              · have HZ := Lib.hid (HY.out c1 c3)
                clear HY HN c1 c2
                go_wp2_with fail
                go_quiet (fail)
                go_wp2_with fail
                go_roundw
                case rel => exact ⟨k + 1, X, by omega, hX3, by go_num, rfl, HZ, HW.out.drewN _⟩
                case measure => simp [intOf]; omega
              · have HZ := Lib.hid (HN.out (fun h => c3 h.2.2))
                have c3b : ((s.extract at_ (at_ + X.size)).toList == X.toList) = false := by rw [beq_eq_false_iff_ne]; exact fun h => c3 (toList_inj h)
                clear HY HN c1 c2 c3
                go_wp2_with fail
                go_quiet (fail)
                go_wp2_with fail
                go_roundw
                case rel => exact ⟨k + 1, B, by omega, hB3, by go_num, rfl, HZ, HW.out.drewN _⟩
                case measure => simp [intOf]; omega
            · have c2I : decide ((X.size : Int) ≤ (s.size : Int) - at_) = false := decide_eq_false (by omega)
              have HZ := Lib.hid (HN.out (fun h => c2 h.2.1))
              clear HY HN c1 c2
              go_wp2_with fail
              go_quiet (fail)
              go_wp2_with fail
              go_roundw
              case rel => exact ⟨k + 1, B, by omega, hB3, by go_num, rfl, HZ, HW.out.drewN _⟩
              case measure => simp [intOf]; omega
          · have c1I : decide (B.size < X.size) = false := decide_eq_false (by omega)
            have HZ := Lib.hid (HN.out (fun h => c1 h.1))
            clear HY HN c1
            go_wp2_with fail
            go_quiet (fail)
            go_wp2_with fail
            go_roundw
            case rel => exact ⟨k + 1, B, by omega, hB3, by go_num, rfl, HZ, HW.out.drewN _⟩
            case measure => simp [intOf]; omega
        · have hk20 : k = 20 := by omega
          subst hk20
          have hbc := hw.box.cell
          have hbf := hw.box.frozen
          have E0 := fun u => hw.box.set_cell 0 (by decide) u
          have E1 := fun u0 u => (hw.box.set 0 u0).set_cell 1 (by simp) u
          have E2 := fun u0 u1 u => ((hw.box.set 0 u0).set 1 u1).set_cell 2 (by simp) u
          have E3 := fun u0 u1 u2 u => (((hw.box.set 0 u0).set 1 u1).set 2 u2).set_cell 3 (by simp) u
          have HB := Lib.hid (show B = ⟨((s.data.toList.drop at_).take (signLen (s.data.toList.drop at_))).toArray⟩ from hB.out.trans (congrArg (fun x : List UInt8 => ByteArray.mk x.toArray) (best_all _)))
          clear hB
          by_cases hz : signLen (s.data.toList.drop at_) = 0
          · have hB0 : B = ⟨#[]⟩ := by rw [HB.out, hz]; rfl
            have HR := Lib.hid (HNX.out.trans (if_neg (by omega)))
            subst hB0
            go_wp2_with fail
            refine bodyPost_ret (v := .tuple #[.agg (tkv tk0 0), .int .i64 20]) (by simp [results, Tryd.results79, go_sem, E0, E1, E2, E3]; rfl) rfl ⟨?_, ?_⟩
            · rw [HR.out]; exact ret1 (oneV_err (by decide) _).symm
            · exact (((hw.fr.setCell (fun h => absurd h (Nat.lt_irrefl _)) _).setCell (fun h => absurd h (Nat.lt_irrefl _)) _).setCell (fun h => absurd h (Nat.lt_irrefl _)) _).setCell (fun h => absurd h (Nat.lt_irrefl _)) _
          · have HR := Lib.hid (HNX.out.trans (if_pos (by omega)))
            have hB0 : ¬ B = ⟨#[]⟩ := by
              intro h
              have h2 := sign_mem (l := s.data.toList.drop at_) (by omega)
              rw [HB.out, ByteArray.mk.injEq] at h
              have h3 : (s.data.toList.drop at_).take (signLen (s.data.toList.drop at_)) = [] := by
                have := congrArg Array.toList h
                simpa using this.symm
              rw [h3] at h2
              exact absurd h2 (by decide)
            have hB1 : (B.toList == []) = false := by rw [beq_eq_false_iff_ne]; exact fun h => hB0 (toList_inj (h.trans (by rw [ByteArray.toList_eq])))
            go_wp2_with fail
            refine bodyPost_ret (v := .tuple #[.agg (tkv ⟨3, (s.data.toList.drop at_).take (signLen (s.data.toList.drop at_)), 0⟩ at_), .int .i64 0]) (by simp [results, Tryd.results79, go_sem, tkv, HB.out, E0, E1, E2, E3]) rfl ⟨?_, ?_⟩
            · rw [HR.out]; exact ret1 (oneV_ok _ _).symm
            · exact (((hw.fr.setCell (fun h => absurd h (Nat.lt_irrefl _)) _).setCell (fun h => absurd h (Nat.lt_irrefl _)) _).setCell (fun h => absurd h (Nat.lt_irrefl _)) _).setCell (fun h => absurd h (Nat.lt_irrefl _)) _
/- The reference's tokens of a text. -/
open Go.RowKit Go.Shelf

theorem ref_One (w : World) (s : ByteArray) (at_ : Nat) (ha : at_ < s.size) (hs : s.size ≤ 100000) :
    Calls Tryd.prog 79 #[.string s, .int .i64 at_] w fun e w' => e = .returned (oneV (nextT (s.data.toList.drop at_)) at_) ∧ Fr Nob w w' := by
  cases hsm : smallB s[at_]
  · rcases Nat.eq_zero_or_pos (numLen (s.data.toList.drop at_)) with h | h
    · exact ref_One_sign w s at_ ha hs hsm h
    · exact ref_One_num w s at_ ha hs hsm h
  · exact ref_One_word w s at_ ha hs hsm

theorem elemRef : ElemT Tryd.prog 93 99 4 40 := ElemT.mk (z := .agg #[.int .i64 0, .string default, .int .i64 0, .int .i64 0]) Tryd.underlying93 (by kernel_rfl) (by kernel_rfl) (by decide)
/-- The tokens that are being made. -/
structure RfW (w wr : World) (A : Option Addr) (c : Nat) (o : List (TK × Nat)) : Prop where
  fr : Fr Nob w wr
  own : wr.ownsRow w.heap.size 99 4 (.slice A o.length c) o.length (o.flatMap tcs)
section
variable {w wr w1 : World} {A : Option Addr} {c : Nat} {o : List (TK × Nat)}
theorem RfW.pure (h : RfW w wr A c o) (hf : Fr Nob wr w1) : RfW w w1 A c o := ⟨h.fr.call hf (fun _ h _ => h), own_fr h.own hf (fun _ _ _ _ e => e)⟩
theorem RfW.own_al (h : RfW w wr A c o) (ob : Obj) {n : Nat} (hn : n = o.length) : (wr.alloc ob).ownsRow w.heap.size 99 4 (.slice A n c) n (tcl o) := by
  subst hn; exact (h.pure ((Fr.refl Nob wr).alloc ob)).own
theorem RfW.app {A' : Option Addr} {c' n : Nat} (h : RfW w wr A c o) (x : TK × Nat) (hown : w1.ownsRow w.heap.size 99 4 (.slice A' n c') n (tcl o ++ tcs x)) (hn : n = (o ++ [x]).length) (hg : wr.grownBy w1 (A.map (·.block))) : RfW w w1 A' c' (o ++ [x]) := by
  subst hn
  refine ⟨h.fr.grown hg (fun k hk hlt => by have := own_base h.own k hk; omega), ?_⟩
  rw [List.flatMap_append]
  simpa [tcl] using hown
theorem RfW.row_lt (h : RfW w wr A c o) : ∀ k, A.map (·.block) = some k → k < wr.heap.size := by
  intro k hk
  exact (h.own.lt k (by cases A <;> simp_all [Value.ownBlock])).2
end
set_option maxRecDepth 100000 in
set_option maxHeartbeats 8000000 in
theorem ref_ReadN (w : World) (s : ByteArray) (hs : s.size ≤ 9223372036854775807) :
    Calls Tryd.prog 48 #[.string s] w fun e w' => ∃ A c, e = .returned (.tuple #[.slice A (readT s.data.toList).2.length c, .int .i64 (readT s.data.toList).1.1, .int .i64 (readT s.data.toList).1.2]) ∧ Sl w' 4 A (readT s.data.toList).2.length c ((readT s.data.toList).2.flatMap tcs) ∧ Fr Nob w w' ∧ ∀ b o, A = some ⟨b, o, none⟩ → w.heap.size ≤ b := by
  by_cases h512 : 512 < s.size
  · have hI : (512 : Int) < s.size := by omega
    have HR := Lib.hid (show readT s.data.toList = ((13, 0), []) by unfold readT; rw [ba_len, if_pos h512])
    clear h512
    go_enter Tryd.func48, Tryd.ntmps48
    go_wp2_with fail
    go_ret3
    rw [HR.out]
    exact ⟨none, 0, rfl, Sl.none_ _ _, Fr.refl _ _, fun _ _ e => by cases e⟩
  · have hI : ¬ (512 : Int) < s.size := by omega
    go_enter Tryd.func48, Tryd.ntmps48
    go_wp2_with fail
    go_loopw [5, 6] (fun sv i wr => ∃ (A : Option Addr) (c : Nat) (o : List (TK × Nat)) (at_ : Nat), sv = .slice A o.length c ∧ i = .int .i64 at_ ∧ Hid (RfW w wr A c o) ∧ Hid (RI s.data.toList at_ o)) (fun _ i _ => s.size - (intOf i).toNat)
    case atStart => exact ⟨none, 0, [], 0, rfl, rfl, Lib.hid ⟨Fr.refl _ _, ⟨rfl, .inl ⟨rfl, rfl⟩⟩⟩, Lib.hid (RI.start _)⟩
    case round =>
      obtain ⟨A, c, o, at_, rfl, rfl, hw, hri⟩ := hrel
      have hle := hri.out.le
      have hfw := hri.out.few
      rw [ba_len] at hle
      by_cases hlt : at_ < s.size
      · have hltI : (at_ : Int) < s.size := by omega
        have hll : at_ < s.data.toList.length := by rw [ba_len]; exact hlt
        have HBK := Lib.hid (fun W => ref_Blank W s[at_])
        cases hb : blankB s[at_]
        · rw [hb] at HBK
          obtain ⟨⟨pe, T⟩, hp⟩ : ∃ p, nextT (s.data.toList.drop at_) = p := ⟨_, rfl⟩
          have HN := Lib.hid (fun W => ref_One W s at_ hlt (by omega))
          rw [hp] at HN
          by_cases h0 : pe = 0
          · subst h0
            have hlen := next_text (l := s.data.toList.drop at_) (by rw [hp])
            rw [hp, List.length_drop, ba_len] at hlen
            have HT := Lib.hid (hri.out.tok hll hb hp)
            rw [show oneV (0, T) at_ = .tuple #[.agg #[.int .i64 T.kind, .string ⟨T.text.toArray⟩, .int .i64 T.num, .int .i64 at_], .int .i64 0] from rfl] at HN
            clear hb hp
            simp only at hlen
            have hszT : (ByteArray.mk T.text.toArray).size = T.text.length := by simp [ByteArray.size]
            have HSZ := Lib.hid hszT
            clear hszT
            have HLT := Lib.hid (hw.out.row_lt)
            go_wp2_with ((go_at_call 78); refine (HBK.out _).mono ?_; rintro e w' ⟨rfl, rfl⟩)
            refine (HN.out _).mono ?_
            rintro e w1 ⟨rfl, hf⟩
            have HW1 := Lib.hid (hw.out.pure hf)
            have hsz1 := hf.size
            clear hf HN
            go_wp2_with (at_builtin; refine wpList_app rfl _ _ 93 rfl elemRef (base := w.heap.size) (xs := tcl o) (news := tcs (T, at_)) rfl ?own rfl ?src ?one ?h63 ?hby ?hbase ?_)
            case own => exact ((HW1.out.pure ((Fr.refl Nob _).alloc _)).own_al _ rfl)
            case src => exact Sl.new1 (Blk.new_eq (by simp)) 4 1 rfl (by decide)
            case one => exact tcs_one _
            case h63 => unfold maxLen; omega
            case hby => omega
            case hbase => have h1 := HW1.out.fr.size; simp at h1 ⊢; omega
            intro A2 c2 w2 hown2 hg2 _
            have HW2 := Lib.hid (((HW1.out.pure ((Fr.refl Nob _).alloc _)).pure ((Fr.refl Nob _).alloc _)).app (T, at_) hown2 (by simp) hg2)
            have hbk := (((Blk.new w1 99 #[.int .i64 T.kind, .string ⟨T.text.toArray⟩, .int .i64 T.num, .int .i64 at_]).alloc _).grown hg2 (fun e => by have := HLT.out _ e; omega)).cell
            clear hown2 hg2
            go_wp2_with fail
            go_roundw
            case rel => exact ⟨A2, c2, o ++ [(T, at_)], at_ + T.text.length, by simp, vint (by omega), HW2, HT⟩
            case measure => simp [intOf]; omega
          · have hpe := Lib.hid (hri.out.err hll hb hp h0)
            have h0' : (pe != 0) = true := by simpa using h0
            have HR := Lib.hid (show readT s.data.toList = ((pe, at_), []) by unfold readT; rw [if_neg (by rw [ba_len]; exact h512), hpe.out, if_neg h0])
            rw [show oneV (pe, T) at_ = .tuple #[.agg #[.int .i64 T.kind, .string ⟨T.text.toArray⟩, .int .i64 T.num, .int .i64 0], .int .i64 pe] by unfold oneV tkv; simp only [if_neg h0]] at HN
            clear hb hp h0 hpe
            go_wp2_with first | ((go_at_call 78); refine (HBK.out _).mono ?_; rintro e w' ⟨rfl, rfl⟩) | ((go_at_call 79); refine (HN.out _).mono ?_; rintro e w1 ⟨rfl, hf⟩)
            go_ret3
            rw [HR.out]
            exact ⟨none, 0, rfl, Sl.none_ _ _, (hw.out.pure hf).fr.alloc _, fun _ _ e => by cases e⟩
        · rw [hb] at HBK
          have HB := Lib.hid (hri.out.blank hll hb)
          clear hb
          go_wp2_with ((go_at_call 78); refine (HBK.out _).mono ?_; rintro e w' ⟨rfl, rfl⟩)
          go_roundw
          case rel => exact ⟨A, c, o, at_ + 1, rfl, by go_num, hw, HB⟩
          case measure => simp [intOf]; omega
      · have HR := Lib.hid (show readT s.data.toList = ((0, 0), o ++ [(tk0, s.data.toList.length)]) by unfold readT; rw [if_neg (by rw [ba_len]; exact h512), hri.out.done (by rw [ba_len]; exact hlt)]; rfl)
        have HBL := Lib.hid (ba_len s)
        go_wp2_with (at_builtin; refine wpList_app rfl _ _ 93 rfl elemRef (base := w.heap.size) (xs := tcl o) (news := tcs (tk0, s.size)) rfl ?own rfl ?src ?one ?h63 ?hby ?hbase ?_)
        case own => exact (hw.out.own_al _ rfl)
        case src => exact Sl.new1 (Blk.new _ _ _) 4 1 rfl (by decide)
        case one => exact tcs_one _
        case h63 => unfold maxLen; omega
        case hby => omega
        case hbase => have h1 := hw.out.fr.size; simp at h1 ⊢; omega
        intro A2 c2 w2 hown2 hg2 _
        have HW2 := Lib.hid ((hw.out.pure ((Fr.refl Nob _).alloc _)).app (tk0, s.size) hown2 (by simp) hg2)
        clear hown2 hg2
        go_wp2_with fail
        go_ret3
        rw [HR.out, HBL.out]
        exact ⟨A2, c2, by simp, Sl.of_own HW2.out.own, HW2.out.fr, fun b o e => own_addr HW2.out.own b o e⟩
theorem ref_Read (w : World) (s : ByteArray) (hs : s.size ≤ 9223372036854775807) :
    Calls Tryd.prog 48 #[.string s] w fun e w' => ∃ A c, e = .returned (.tuple #[.slice A (readT s.data.toList).2.length c, .int .i64 (readT s.data.toList).1.1, .int .i64 (readT s.data.toList).1.2]) ∧ Sl w' 4 A (readT s.data.toList).2.length c ((readT s.data.toList).2.flatMap tcs) ∧ Fr Nob w w' :=
  (ref_ReadN w s hs).mono fun _ _ ⟨A, c, h1, h2, h3, _⟩ => ⟨A, c, h1, h2, h3⟩
end Go.Proofs.YtfebkjoohnlifaaDoor
