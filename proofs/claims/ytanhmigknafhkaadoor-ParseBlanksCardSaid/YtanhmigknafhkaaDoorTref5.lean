/- The reference's signs. -/
import Derived.Test.YtanhmigknafhkaaDoorTone
namespace Go.Proofs.YtanhmigknafhkaaDoor
open Go.RowKit Go.Shelf

def sgc : List Value := sgnAll.map fun x => .string ⟨x.toArray⟩
theorem ref_signs (w : World) : Calls Tryd.prog 66 #[] w fun e w' => ∃ A, e = .returned (.slice A 20 20) ∧ Sl w' 1 A 20 20 sgc ∧ Fr Nob w w' := by
  go_enter Tryd.func66, Tryd.ntmps66
  go_wp2_with fail
  go_ret
  exact ⟨_, rfl, Sl.new1 (Blk.new _ _ _) 1 20 rfl (by decide), (Fr.refl _ _).alloc _⟩

theorem no_digit {s : ByteArray} {at_ F : Nat} {neg : Bool} (ha : at_ < s.size) (hn : (s[at_] == 45) = neg) (hF : F = at_ + neg.toNat) (h0 : numLen (s.data.toList.drop at_) = 0) (hFs : F < s.size) : digB s[F] = false := by
  have hc : s.data.toList.drop at_ = s[at_] :: s.data.toList.drop (at_ + 1) := List.drop_eq_getElem_cons (by rw [ba_len]; exact ha)
  have hd : s.data.toList.drop F = s[F] :: s.data.toList.drop (F + 1) := List.drop_eq_getElem_cons (by rw [ba_len]; exact hFs)
  rw [← Bool.not_eq_true]
  intro hb
  have hp : 0 < ((s.data.toList.drop F).takeWhile digB).length := by rw [hd, List.takeWhile_cons_of_pos hb]; simp
  cases neg
  · have h45 : ¬ s[at_] = 45 := by simpa using hn
    simp only [Bool.toNat_false, Nat.add_zero] at hF
    subst hF
    rw [hc, numLen_no h45, ← hc] at h0
    omega
  · have h45 : s[at_] = 45 := by simpa using hn
    simp only [Bool.toNat_true] at hF
    subst hF
    rw [hc, h45, numLen_45] at h0
    split at h0 <;> omega
theorem nx_sign {s : ByteArray} {at_ : Nat} (ha : at_ < s.size) (hs : smallB s[at_] = false) (hn : numLen (s.data.toList.drop at_) = 0) :
    nextT (s.data.toList.drop at_) = if 0 < signLen (s.data.toList.drop at_) then (0, ⟨3, (s.data.toList.drop at_).take (signLen (s.data.toList.drop at_)), 0⟩) else (20, tk0) := by
  have hc : s.data.toList.drop at_ = s[at_] :: s.data.toList.drop (at_ + 1) := List.drop_eq_getElem_cons (by rw [ba_len]; exact ha)
  rw [hc] at hn ⊢
  unfold nextT
  simp only [hs, Bool.false_eq_true, if_false, hn, Nat.lt_irrefl]
  rfl
theorem toList_inj {a b : ByteArray} (h : a.toList = b.toList) : a = b := by
  rw [ByteArray.toList_eq, ByteArray.toList_eq] at h
  exact ByteArray.ext (Array.ext' h)
theorem bstep_yes {s : ByteArray} {at_ k : Nat} {B X : ByteArray} (hk : k < sgnAll.length) (hX : X = ⟨sgnAll[k].toArray⟩) (hB : B = ⟨(bestK k (s.data.toList.drop at_)).toArray⟩) (h1 : B.size < X.size) (h3 : s.extract at_ (at_ + X.size) = X) : X = ⟨(bestK (k + 1) (s.data.toList.drop at_)).toArray⟩ := by
  rw [bestK_succ hk]
  unfold bstep
  rw [cut_mid] at h3
  have e : at_ + X.size - at_ = X.size := by omega
  rw [e] at h3
  subst hX hB
  simp only [ByteArray.size, List.size_toArray] at h1 h3
  have h3 := congrArg (fun b : ByteArray => b.data.toList) h3
  simp only at h3
  rw [if_pos ⟨h1, h3⟩]
theorem bstep_no1 {s : ByteArray} {at_ k : Nat} {B X : ByteArray} (hk : k < sgnAll.length) (hX : X = ⟨sgnAll[k].toArray⟩) (hB : B = ⟨(bestK k (s.data.toList.drop at_)).toArray⟩) (h1 : ¬ (B.size < X.size ∧ X.size ≤ s.size - at_ ∧ s.extract at_ (at_ + X.size) = X)) : B = ⟨(bestK (k + 1) (s.data.toList.drop at_)).toArray⟩ := by
  rw [bestK_succ hk]
  unfold bstep
  rw [cut_mid] at h1
  have e : at_ + X.size - at_ = X.size := by omega
  rw [e] at h1
  subst hX hB
  simp only [ByteArray.size, List.size_toArray] at h1
  rw [if_neg]
  rintro ⟨h2, h3⟩
  apply h1
  refine ⟨h2, ?_, by rw [h3]⟩
  have := congrArg List.length h3
  rw [List.length_take, List.length_drop, ba_len] at this
  simp only [ByteArray.size] at this
  omega
theorem Blk.set_cell {w : World} {g : Nat} {t : TypeId} {cs : Array Value} (h : Blk w g t cs) (i : Nat) (hi : i < cs.size) (u : Value) : (w.setCell ⟨g, i, none⟩ u).cell? ⟨g, i, none⟩ = some u := by
  rw [(h.set i u).cell]
  simp [hi]
/-- The signs' cells, where the choice is made. -/
structure SgW (w wr : World) (b off : Nat) : Prop where
  fr : Fr Nob w wr
  box : Blk wr w.heap.size 55 #[.int .i64 0, .string ⟨#[]⟩, .int .i64 0, .int .i64 0]
  cells : ∀ j u, sgc[j]? = some u → wr.cell? ⟨b, off + j, none⟩ = some u
theorem SgW.drewN {w wr : World} {b off : Nat} (h : SgW w wr b off) (n : Nat) : SgW w (wr.drewN n) b off := ⟨h.fr.drewN n, h.box, h.cells⟩
set_option maxRecDepth 100000 in
set_option maxHeartbeats 8000000 in
theorem ref_One_sign (w : World) (s : ByteArray) (at_ : Nat) (ha : at_ < s.size) (hs : s.size ≤ 100000) (hsm : smallB s[at_] = false) (hn : numLen (s.data.toList.drop at_) = 0) :
    Calls Tryd.prog 44 #[.string s, .int .i64 at_] w fun e w' => e = .returned (oneV (nextT (s.data.toList.drop at_)) at_) ∧ Fr Nob w w' := by
  have HNX := Lib.hid (nx_sign ha hsm hn)
  have HS := Lib.hid (fun W => ref_letter W s[at_])
  rw [hsm] at HS
  have HDG := Lib.hid (fun (neg : Bool) (F : Nat) h1 h2 => no_digit (neg := neg) (F := F) ha h1 h2 hn)
  clear hsm hn
  have haI : (at_ : Int) < s.size := by omega
  by_cases h45 : s[at_] = 45
  · have HNEG := Lib.hid (show (s[at_] == 45) = true by simpa using h45)
    have e45 : ((s[at_].toNat : Int) == 45) = true := by rw [u8_eq (n := 45) h45 rfl]; rfl
    clear h45
    go_enter Tryd.func44, Tryd.ntmps44
    go_wp2_with ((go_at_call 63); refine (HS.out _).mono ?_; rintro e w' ⟨rfl, rfl⟩)
    obtain ⟨F, HFq⟩ : ∃ F : Nat, Hid (F = at_ + true.toNat) := ⟨_, Lib.hid rfl⟩
    have HD := Lib.hid (HDG.out true F HNEG.out HFq.out)
    clear HDG
    have hFe : (at_ : Int) + 1 = (F : Int) := by rw [HFq.out]; simp
    rw [hFe]
    have hFat : (at_ : Int) < F := by omega
    have hFn : F ≤ s.size := by omega
    clear hFe
    go_loop [8] (fun i => i = .int .i64 F) (fun _ => 0)
    case atStart => rfl
    case round =>
      subst hrel
      by_cases hFs : F < s.size
      · have hFI : (F : Int) < s.size := by omega
        have HD2 := Lib.hid (fun W => ref_digit W s[F])
        rw [HD.out hFs] at HD2
        go_wp2_with first | ((go_at_call 64); refine (HD2.out _).mono ?_; rintro e w' ⟨rfl, rfl⟩) | ((go_at_call 66); refine (ref_signs _).mono ?_; rintro e w1 ⟨A, rfl, hsl, hf1⟩)
        have HW1 := Lib.hid (((Fr.refl Nob w).alloc _).call hf1 (fun _ h _ => h))
        have HBX := Lib.hid ((Blk.new _ _ _).fr hf1 (fun e => e))
        obtain ⟨b, off, rfl, hb, hcs⟩ := hsl.cells (by decide)
        clear hsl hf1
        go_loopw [11, 13] (fun bv i wr => ∃ (k : Nat) (B : ByteArray), k ≤ 20 ∧ B.size ≤ 3 ∧ i = .int .i64 k ∧ bv = .string B ∧ Hid (B = ⟨(bestK k (s.data.toList.drop at_)).toArray⟩) ∧ SgW w wr b off) (fun _ i _ => 20 - (intOf i).toNat)
        case atStart => exact ⟨0, ⟨#[]⟩, by decide, by decide, rfl, rfl, Lib.hid rfl, ⟨HW1.out, HBX.out, hcs⟩⟩
        case round =>
          clear hcs HBX
          obtain ⟨k, B, hk, hB3, rfl, rfl, hB, hw⟩ := hrel
          by_cases hlt : k < 20
          · have hI : (k : Int) < 20 := by omega
            have hlt' : k < sgnAll.length := hlt
            obtain ⟨X, HX⟩ : ∃ X : ByteArray, Hid (X = ⟨sgnAll[k].toArray⟩) := ⟨_, Lib.hid rfl⟩
            have hcell := hw.cells k (.string X) (by rw [HX.out]; show sgc[k]? = _; unfold sgc; rw [List.getElem?_map, List.getElem?_eq_getElem hlt']; rfl)
            have HW := Lib.hid hw
            clear hw
            have hX3 : X.size ≤ 3 := by
              rw [HX.out]; show sgnAll[k].toArray.size ≤ 3
              have hm : sgnAll[k] ∈ sgnAll := List.getElem_mem hlt'
              rw [List.size_toArray]
              revert hm; generalize sgnAll[k] = x; revert x; decide
            have HY := Lib.hid (bstep_yes hlt' HX.out hB.out)
            have HN := Lib.hid (bstep_no1 hlt' HX.out hB.out)
            clear HX
            by_cases c1 : B.size < X.size
            · have c1I : (B.size : Int) < X.size := by omega
              by_cases c2 : X.size ≤ s.size - at_
              · have c2I : (X.size : Int) ≤ (s.size : Int) - at_ := by omega
                have c2J : (at_ : Int) + X.size ≤ (s.size : Int) := by omega
                by_cases c3 : s.extract at_ (at_ + X.size) = X
                · have HZ := Lib.hid (HY.out c1 c3)
                  clear HY HN c1 c2
                  go_wp2_with fail
                  go_quiet (fail)
                  go_wp2_with fail
                  go_roundw
                  case rel => exact ⟨k + 1, X, by omega, hX3, by go_num, rfl, HZ, HW.out.drewN _⟩
                  case measure => simp [intOf]; omega
                · have HZ := Lib.hid (HN.out (fun h => c3 h.2.2))
                  have c3b : ((s.extract at_ (at_ + X.size)).toList == X.toList) = false := by rw [beq_eq_false_iff_ne]; exact fun h => c3 (toList_inj h)
                  clear HY HN c1 c2 c3
                  go_wp2_with fail
                  go_quiet (fail)
                  go_wp2_with fail
                  go_roundw
                  case rel => exact ⟨k + 1, B, by omega, hB3, by go_num, rfl, HZ, HW.out.drewN _⟩
                  case measure => simp [intOf]; omega
              · have c2I : decide ((X.size : Int) ≤ (s.size : Int) - at_) = false := decide_eq_false (by omega)
                have HZ := Lib.hid (HN.out (fun h => c2 h.2.1))
                clear HY HN c1 c2
                go_wp2_with fail
                go_quiet (fail)
                go_wp2_with fail
                go_roundw
                case rel => exact ⟨k + 1, B, by omega, hB3, by go_num, rfl, HZ, HW.out.drewN _⟩
                case measure => simp [intOf]; omega
            · have c1I : decide (B.size < X.size) = false := decide_eq_false (by omega)
              have HZ := Lib.hid (HN.out (fun h => c1 h.1))
              clear HY HN c1
              go_wp2_with fail
              go_quiet (fail)
              go_wp2_with fail
              go_roundw
              case rel => exact ⟨k + 1, B, by omega, hB3, by go_num, rfl, HZ, HW.out.drewN _⟩
              case measure => simp [intOf]; omega
          · have hk20 : k = 20 := by omega
            subst hk20
            have hbc := hw.box.cell
            have hbf := hw.box.frozen
            have E0 := fun u => hw.box.set_cell 0 (by decide) u
            have E1 := fun u0 u => (hw.box.set 0 u0).set_cell 1 (by simp) u
            have E2 := fun u0 u1 u => ((hw.box.set 0 u0).set 1 u1).set_cell 2 (by simp) u
            have E3 := fun u0 u1 u2 u => (((hw.box.set 0 u0).set 1 u1).set 2 u2).set_cell 3 (by simp) u
            have HB := Lib.hid (show B = ⟨((s.data.toList.drop at_).take (signLen (s.data.toList.drop at_))).toArray⟩ from hB.out.trans (congrArg (fun x : List UInt8 => ByteArray.mk x.toArray) (best_all _)))
            clear hB
            by_cases hz : signLen (s.data.toList.drop at_) = 0
            · have hB0 : B = ⟨#[]⟩ := by rw [HB.out, hz]; rfl
              have HR := Lib.hid (HNX.out.trans (if_neg (by omega)))
              subst hB0
              go_wp2_with fail
              refine bodyPost_ret (v := .tuple #[.agg (tkv tk0 0), .int .i64 20]) (by simp [results, Tryd.results44, go_sem, E0, E1, E2, E3]; rfl) rfl ⟨?_, ?_⟩
              · rw [HR.out]; exact ret1 (oneV_err (by decide) _).symm
              · exact (((hw.fr.setCell (fun h => absurd h (Nat.lt_irrefl _)) _).setCell (fun h => absurd h (Nat.lt_irrefl _)) _).setCell (fun h => absurd h (Nat.lt_irrefl _)) _).setCell (fun h => absurd h (Nat.lt_irrefl _)) _
            · have HR := Lib.hid (HNX.out.trans (if_pos (by omega)))
              have hB0 : ¬ B = ⟨#[]⟩ := by
                intro h
                have h2 := sign_mem (l := s.data.toList.drop at_) (by omega)
                rw [HB.out, ByteArray.mk.injEq] at h
                have h3 : (s.data.toList.drop at_).take (signLen (s.data.toList.drop at_)) = [] := by
                  have := congrArg Array.toList h
                  simpa using this.symm
                rw [h3] at h2
                exact absurd h2 (by decide)
              have hB1 : (B.toList == []) = false := by rw [beq_eq_false_iff_ne]; exact fun h => hB0 (toList_inj (h.trans (by rw [ByteArray.toList_eq])))
              go_wp2_with fail
              refine bodyPost_ret (v := .tuple #[.agg (tkv ⟨3, (s.data.toList.drop at_).take (signLen (s.data.toList.drop at_)), 0⟩ at_), .int .i64 0]) (by simp [results, Tryd.results44, go_sem, tkv, HB.out, E0, E1, E2, E3]) rfl ⟨?_, ?_⟩
              · rw [HR.out]; exact ret1 (oneV_ok _ _).symm
              · exact (((hw.fr.setCell (fun h => absurd h (Nat.lt_irrefl _)) _).setCell (fun h => absurd h (Nat.lt_irrefl _)) _).setCell (fun h => absurd h (Nat.lt_irrefl _)) _).setCell (fun h => absurd h (Nat.lt_irrefl _)) _
      · have hFI : ¬ (F : Int) < s.size := by omega
        go_wp2_with ((go_at_call 66); refine (ref_signs _).mono ?_; rintro e w1 ⟨A, rfl, hsl, hf1⟩)
        have HW1 := Lib.hid (((Fr.refl Nob w).alloc _).call hf1 (fun _ h _ => h))
        have HBX := Lib.hid ((Blk.new _ _ _).fr hf1 (fun e => e))
        obtain ⟨b, off, rfl, hb, hcs⟩ := hsl.cells (by decide)
        clear hsl hf1
        go_loopw [11, 13] (fun bv i wr => ∃ (k : Nat) (B : ByteArray), k ≤ 20 ∧ B.size ≤ 3 ∧ i = .int .i64 k ∧ bv = .string B ∧ Hid (B = ⟨(bestK k (s.data.toList.drop at_)).toArray⟩) ∧ SgW w wr b off) (fun _ i _ => 20 - (intOf i).toNat)
        case atStart => exact ⟨0, ⟨#[]⟩, by decide, by decide, rfl, rfl, Lib.hid rfl, ⟨HW1.out, HBX.out, hcs⟩⟩
        case round =>
          clear hcs HBX
          obtain ⟨k, B, hk, hB3, rfl, rfl, hB, hw⟩ := hrel
          by_cases hlt : k < 20
          · have hI : (k : Int) < 20 := by omega
            have hlt' : k < sgnAll.length := hlt
            obtain ⟨X, HX⟩ : ∃ X : ByteArray, Hid (X = ⟨sgnAll[k].toArray⟩) := ⟨_, Lib.hid rfl⟩
            have hcell := hw.cells k (.string X) (by rw [HX.out]; show sgc[k]? = _; unfold sgc; rw [List.getElem?_map, List.getElem?_eq_getElem hlt']; rfl)
            have HW := Lib.hid hw
            clear hw
            have hX3 : X.size ≤ 3 := by
              rw [HX.out]; show sgnAll[k].toArray.size ≤ 3
              have hm : sgnAll[k] ∈ sgnAll := List.getElem_mem hlt'
              rw [List.size_toArray]
              revert hm; generalize sgnAll[k] = x; revert x; decide
            have HY := Lib.hid (bstep_yes hlt' HX.out hB.out)
            have HN := Lib.hid (bstep_no1 hlt' HX.out hB.out)
            clear HX
            by_cases c1 : B.size < X.size
            · have c1I : (B.size : Int) < X.size := by omega
              by_cases c2 : X.size ≤ s.size - at_
              · have c2I : (X.size : Int) ≤ (s.size : Int) - at_ := by omega
                have c2J : (at_ : Int) + X.size ≤ (s.size : Int) := by omega
                by_cases c3 : s.extract at_ (at_ + X.size) = X
                · have HZ := Lib.hid (HY.out c1 c3)
                  clear HY HN c1 c2
                  go_wp2_with fail
                  go_quiet (fail)
                  go_wp2_with fail
                  go_roundw
                  case rel => exact ⟨k + 1, X, by omega, hX3, by go_num, rfl, HZ, HW.out.drewN _⟩
                  case measure => simp [intOf]; omega
                · have HZ := Lib.hid (HN.out (fun h => c3 h.2.2))
                  have c3b : ((s.extract at_ (at_ + X.size)).toList == X.toList) = false := by rw [beq_eq_false_iff_ne]; exact fun h => c3 (toList_inj h)
                  clear HY HN c1 c2 c3
                  go_wp2_with fail
                  go_quiet (fail)
                  go_wp2_with fail
                  go_roundw
                  case rel => exact ⟨k + 1, B, by omega, hB3, by go_num, rfl, HZ, HW.out.drewN _⟩
                  case measure => simp [intOf]; omega
              · have c2I : decide ((X.size : Int) ≤ (s.size : Int) - at_) = false := decide_eq_false (by omega)
                have HZ := Lib.hid (HN.out (fun h => c2 h.2.1))
                clear HY HN c1 c2
                go_wp2_with fail
                go_quiet (fail)
                go_wp2_with fail
                go_roundw
                case rel => exact ⟨k + 1, B, by omega, hB3, by go_num, rfl, HZ, HW.out.drewN _⟩
                case measure => simp [intOf]; omega
            · have c1I : decide (B.size < X.size) = false := decide_eq_false (by omega)
              have HZ := Lib.hid (HN.out (fun h => c1 h.1))
              clear HY HN c1
              go_wp2_with fail
              go_quiet (fail)
              go_wp2_with fail
              go_roundw
              case rel => exact ⟨k + 1, B, by omega, hB3, by go_num, rfl, HZ, HW.out.drewN _⟩
              case measure => simp [intOf]; omega
          · have hk20 : k = 20 := by omega
            subst hk20
            have hbc := hw.box.cell
            have hbf := hw.box.frozen
            have E0 := fun u => hw.box.set_cell 0 (by decide) u
            have E1 := fun u0 u => (hw.box.set 0 u0).set_cell 1 (by simp) u
            have E2 := fun u0 u1 u => ((hw.box.set 0 u0).set 1 u1).set_cell 2 (by simp) u
            have E3 := fun u0 u1 u2 u => (((hw.box.set 0 u0).set 1 u1).set 2 u2).set_cell 3 (by simp) u
            have HB := Lib.hid (show B = ⟨((s.data.toList.drop at_).take (signLen (s.data.toList.drop at_))).toArray⟩ from hB.out.trans (congrArg (fun x : List UInt8 => ByteArray.mk x.toArray) (best_all _)))
            clear hB
            by_cases hz : signLen (s.data.toList.drop at_) = 0
            · have hB0 : B = ⟨#[]⟩ := by rw [HB.out, hz]; rfl
              have HR := Lib.hid (HNX.out.trans (if_neg (by omega)))
              subst hB0
              go_wp2_with fail
              refine bodyPost_ret (v := .tuple #[.agg (tkv tk0 0), .int .i64 20]) (by simp [results, Tryd.results44, go_sem, E0, E1, E2, E3]; rfl) rfl ⟨?_, ?_⟩
              · rw [HR.out]; exact ret1 (oneV_err (by decide) _).symm
              · exact (((hw.fr.setCell (fun h => absurd h (Nat.lt_irrefl _)) _).setCell (fun h => absurd h (Nat.lt_irrefl _)) _).setCell (fun h => absurd h (Nat.lt_irrefl _)) _).setCell (fun h => absurd h (Nat.lt_irrefl _)) _
            · have HR := Lib.hid (HNX.out.trans (if_pos (by omega)))
              have hB0 : ¬ B = ⟨#[]⟩ := by
                intro h
                have h2 := sign_mem (l := s.data.toList.drop at_) (by omega)
                rw [HB.out, ByteArray.mk.injEq] at h
                have h3 : (s.data.toList.drop at_).take (signLen (s.data.toList.drop at_)) = [] := by
                  have := congrArg Array.toList h
                  simpa using this.symm
                rw [h3] at h2
                exact absurd h2 (by decide)
              have hB1 : (B.toList == []) = false := by rw [beq_eq_false_iff_ne]; exact fun h => hB0 (toList_inj (h.trans (by rw [ByteArray.toList_eq])))
              go_wp2_with fail
              refine bodyPost_ret (v := .tuple #[.agg (tkv ⟨3, (s.data.toList.drop at_).take (signLen (s.data.toList.drop at_)), 0⟩ at_), .int .i64 0]) (by simp [results, Tryd.results44, go_sem, tkv, HB.out, E0, E1, E2, E3]) rfl ⟨?_, ?_⟩
              · rw [HR.out]; exact ret1 (oneV_ok _ _).symm
              · exact (((hw.fr.setCell (fun h => absurd h (Nat.lt_irrefl _)) _).setCell (fun h => absurd h (Nat.lt_irrefl _)) _).setCell (fun h => absurd h (Nat.lt_irrefl _)) _).setCell (fun h => absurd h (Nat.lt_irrefl _)) _
  · have HNEG := Lib.hid (show (s[at_] == 45) = false by simpa using h45)
    have e45 := u8_ne (n := 45) h45 rfl
    have HD := Lib.hid (HDG.out false at_ HNEG.out (by simp))
    clear h45 HDG
    go_enter Tryd.func44, Tryd.ntmps44
    go_wp2_with ((go_at_call 63); refine (HS.out _).mono ?_; rintro e w' ⟨rfl, rfl⟩)
    go_loop [8] (fun i => i = .int .i64 at_) (fun _ => 0)
    case atStart => rfl
    case round =>
      subst hrel
      have HD2 := Lib.hid (fun W => ref_digit W s[at_])
      rw [HD.out ha] at HD2
      go_wp2_with first | ((go_at_call 64); refine (HD2.out _).mono ?_; rintro e w' ⟨rfl, rfl⟩) | ((go_at_call 66); refine (ref_signs _).mono ?_; rintro e w1 ⟨A, rfl, hsl, hf1⟩)
      have HW1 := Lib.hid (((Fr.refl Nob w).alloc _).call hf1 (fun _ h _ => h))
      have HBX := Lib.hid ((Blk.new _ _ _).fr hf1 (fun e => e))
      obtain ⟨b, off, rfl, hb, hcs⟩ := hsl.cells (by decide)
      clear hsl hf1
      go_loopw [11, 13] (fun bv i wr => ∃ (k : Nat) (B : ByteArray), k ≤ 20 ∧ B.size ≤ 3 ∧ i = .int .i64 k ∧ bv = .string B ∧ Hid (B = ⟨(bestK k (s.data.toList.drop at_)).toArray⟩) ∧ SgW w wr b off) (fun _ i _ => 20 - (intOf i).toNat)
      case atStart => exact ⟨0, ⟨#[]⟩, by decide, by decide, rfl, rfl, Lib.hid rfl, ⟨HW1.out, HBX.out, hcs⟩⟩
      case round =>
        clear hcs HBX
        obtain ⟨k, B, hk, hB3, rfl, rfl, hB, hw⟩ := hrel
        by_cases hlt : k < 20
        · have hI : (k : Int) < 20 := by omega
          have hlt' : k < sgnAll.length := hlt
          obtain ⟨X, HX⟩ : ∃ X : ByteArray, Hid (X = ⟨sgnAll[k].toArray⟩) := ⟨_, Lib.hid rfl⟩
          have hcell := hw.cells k (.string X) (by rw [HX.out]; show sgc[k]? = _; unfold sgc; rw [List.getElem?_map, List.getElem?_eq_getElem hlt']; rfl)
          have HW := Lib.hid hw
          clear hw
          have hX3 : X.size ≤ 3 := by
            rw [HX.out]; show sgnAll[k].toArray.size ≤ 3
            have hm : sgnAll[k] ∈ sgnAll := List.getElem_mem hlt'
            rw [List.size_toArray]
            revert hm; generalize sgnAll[k] = x; revert x; decide
          have HY := Lib.hid (bstep_yes hlt' HX.out hB.out)
          have HN := Lib.hid (bstep_no1 hlt' HX.out hB.out)
          clear HX
          by_cases c1 : B.size < X.size
          · have c1I : (B.size : Int) < X.size := by omega
            by_cases c2 : X.size ≤ s.size - at_
            · have c2I : (X.size : Int) ≤ (s.size : Int) - at_ := by omega
              have c2J : (at_ : Int) + X.size ≤ (s.size : Int) := by omega
              by_cases c3 : s.extract at_ (at_ + X.size) = X
              · have HZ := Lib.hid (HY.out c1 c3)
                clear HY HN c1 c2
                go_wp2_with fail
                go_quiet (fail)
                go_wp2_with fail
                go_roundw
                case rel => exact ⟨k + 1, X, by omega, hX3, by go_num, rfl, HZ, HW.out.drewN _⟩
                case measure => simp [intOf]; omega
              · have HZ := Lib.hid (HN.out (fun h => c3 h.2.2))
                have c3b : ((s.extract at_ (at_ + X.size)).toList == X.toList) = false := by rw [beq_eq_false_iff_ne]; exact fun h => c3 (toList_inj h)
                clear HY HN c1 c2 c3
                go_wp2_with fail
                go_quiet (fail)
                go_wp2_with fail
                go_roundw
                case rel => exact ⟨k + 1, B, by omega, hB3, by go_num, rfl, HZ, HW.out.drewN _⟩
                case measure => simp [intOf]; omega
            · have c2I : decide ((X.size : Int) ≤ (s.size : Int) - at_) = false := decide_eq_false (by omega)
              have HZ := Lib.hid (HN.out (fun h => c2 h.2.1))
              clear HY HN c1 c2
              go_wp2_with fail
              go_quiet (fail)
              go_wp2_with fail
              go_roundw
              case rel => exact ⟨k + 1, B, by omega, hB3, by go_num, rfl, HZ, HW.out.drewN _⟩
              case measure => simp [intOf]; omega
          · have c1I : decide (B.size < X.size) = false := decide_eq_false (by omega)
            have HZ := Lib.hid (HN.out (fun h => c1 h.1))
            clear HY HN c1
            go_wp2_with fail
            go_quiet (fail)
            go_wp2_with fail
            go_roundw
            case rel => exact ⟨k + 1, B, by omega, hB3, by go_num, rfl, HZ, HW.out.drewN _⟩
            case measure => simp [intOf]; omega
        · have hk20 : k = 20 := by omega
          subst hk20
          have hbc := hw.box.cell
          have hbf := hw.box.frozen
          have E0 := fun u => hw.box.set_cell 0 (by decide) u
          have E1 := fun u0 u => (hw.box.set 0 u0).set_cell 1 (by simp) u
          have E2 := fun u0 u1 u => ((hw.box.set 0 u0).set 1 u1).set_cell 2 (by simp) u
          have E3 := fun u0 u1 u2 u => (((hw.box.set 0 u0).set 1 u1).set 2 u2).set_cell 3 (by simp) u
          have HB := Lib.hid (show B = ⟨((s.data.toList.drop at_).take (signLen (s.data.toList.drop at_))).toArray⟩ from hB.out.trans (congrArg (fun x : List UInt8 => ByteArray.mk x.toArray) (best_all _)))
          clear hB
          by_cases hz : signLen (s.data.toList.drop at_) = 0
          · have hB0 : B = ⟨#[]⟩ := by rw [HB.out, hz]; rfl
            have HR := Lib.hid (HNX.out.trans (if_neg (by omega)))
            subst hB0
            go_wp2_with fail
            refine bodyPost_ret (v := .tuple #[.agg (tkv tk0 0), .int .i64 20]) (by simp [results, Tryd.results44, go_sem, E0, E1, E2, E3]; rfl) rfl ⟨?_, ?_⟩
            · rw [HR.out]; exact ret1 (oneV_err (by decide) _).symm
            · exact (((hw.fr.setCell (fun h => absurd h (Nat.lt_irrefl _)) _).setCell (fun h => absurd h (Nat.lt_irrefl _)) _).setCell (fun h => absurd h (Nat.lt_irrefl _)) _).setCell (fun h => absurd h (Nat.lt_irrefl _)) _
          · have HR := Lib.hid (HNX.out.trans (if_pos (by omega)))
            have hB0 : ¬ B = ⟨#[]⟩ := by
              intro h
              have h2 := sign_mem (l := s.data.toList.drop at_) (by omega)
              rw [HB.out, ByteArray.mk.injEq] at h
              have h3 : (s.data.toList.drop at_).take (signLen (s.data.toList.drop at_)) = [] := by
                have := congrArg Array.toList h
                simpa using this.symm
              rw [h3] at h2
              exact absurd h2 (by decide)
            have hB1 : (B.toList == []) = false := by rw [beq_eq_false_iff_ne]; exact fun h => hB0 (toList_inj (h.trans (by rw [ByteArray.toList_eq])))
            go_wp2_with fail
            refine bodyPost_ret (v := .tuple #[.agg (tkv ⟨3, (s.data.toList.drop at_).take (signLen (s.data.toList.drop at_)), 0⟩ at_), .int .i64 0]) (by simp [results, Tryd.results44, go_sem, tkv, HB.out, E0, E1, E2, E3]) rfl ⟨?_, ?_⟩
            · rw [HR.out]; exact ret1 (oneV_ok _ _).symm
            · exact (((hw.fr.setCell (fun h => absurd h (Nat.lt_irrefl _)) _).setCell (fun h => absurd h (Nat.lt_irrefl _)) _).setCell (fun h => absurd h (Nat.lt_irrefl _)) _).setCell (fun h => absurd h (Nat.lt_irrefl _)) _
end Go.Proofs.YtanhmigknafhkaaDoor
