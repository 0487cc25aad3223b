/- The reference's token at a place: words. -/
import Derived.Test.YtlhhnhbmiamhkaaDoorTref1
namespace Go.Proofs.YtlhhnhbmiamhkaaDoor
open Go.RowKit Go.Shelf

theorem tail_list (s : ByteArray) (k : Nat) : (s.extract k s.size).data.toList = s.data.toList.drop k := by rw [cut_from]
theorem tail_get (s : ByteArray) (k : Nat) (h : k < s.size) (h0 : 0 < (s.extract k s.size).size) : (s.extract k s.size)[0] = s[k] := by
  rw [ByteArray.getElem_extract]
  simp
theorem tail_size (s : ByteArray) (k : Nat) : (s.extract k s.size).size = s.size - k := by rw [ByteArray.size_extract]; omega
theorem cut_mid (s : ByteArray) (i j : Nat) : s.extract i j = ⟨((s.data.toList.drop i).take (j - i)).toArray⟩ := by
  apply ByteArray.ext
  rw [ByteArray.data_extract]
  apply Array.ext'
  simp
/-- What One answers: the place is told of a token alone. -/
def oneV (p : Int × TK) (at_ : Nat) : Value := .tuple #[.agg (tkv p.2 (if p.1 = 0 then (at_ : Int) else 0)), .int .i64 p.1]
theorem oneV_ok (T : TK) (at_ : Nat) : oneV (0, T) at_ = .tuple #[.agg (tkv T at_), .int .i64 0] := rfl
theorem oneV_err {e : Int} (h : ¬ e = 0) (at_ : Nat) : oneV (e, tk0) at_ = .tuple #[.agg (tkv tk0 0), .int .i64 e] := by unfold oneV; simp only [h, if_false]
theorem Runs.later {p : UInt8 → Bool} {s : ByteArray} {f g k : Nat} (h : Runs p s f k) (hg : f ≤ g) : Runs p s g k := fun i hi h1 h2 => h i hi (by omega) h2

theorem nx_word {s : ByteArray} {at_ k : Nat} (ha : at_ < s.size) (hs : smallB s[at_] = true) (hk : at_ < k) (hl : ((s.data.toList.drop (at_ + 1)).takeWhile wordB).length = k - (at_ + 1)) :
    nextT (s.data.toList.drop at_) = if 12 < k - at_ then (21, tk0) else (0, ⟨1, (s.data.toList.drop at_).take (k - at_), 0⟩) := by
  have h1 : 1 ≤ (s.extract at_ s.size).size := by rw [tail_size]; omega
  have := next_word (s := s.extract at_ s.size) h1 (by rw [tail_get s at_ ha]; exact hs) (k := k - at_) (by omega) (by rw [tail_list, List.drop_drop, hl]; omega)
  rwa [tail_list] at this

set_option maxRecDepth 100000 in
set_option maxHeartbeats 4000000 in
theorem ref_One_word (w : World) (s : ByteArray) (at_ : Nat) (ha : at_ < s.size) (hs : s.size ≤ 100000) (hsm : smallB s[at_] = true) :
    Calls Tryd.prog 15 #[.string s, .int .i64 at_] w fun e w' => e = .returned (oneV (nextT (s.data.toList.drop at_)) at_) ∧ Fr Nob w w' := by
  have HSM := Lib.hid hsm
  have HS := Lib.hid (fun W => ref_letter W s[at_])
  rw [hsm] at HS
  clear hsm
  have haI : (at_ : Int) < s.size := by omega
  go_enter Tryd.func15, Tryd.ntmps15
  go_wp2_with ((go_at_call 21); refine (HS.out _).mono ?_; rintro e w' ⟨rfl, rfl⟩)
  go_loop [6] (fun i => ∃ k : Nat, at_ ≤ k ∧ k ≤ s.size ∧ i = .int .i64 k ∧ Hid (Runs wordB s at_ k)) (fun i => s.size - (intOf i).toNat)
  case atStart => exact ⟨at_, Nat.le_refl _, by omega, rfl, Lib.hid (Runs.start _ _ _)⟩
  case round =>
    obtain ⟨k, hk0, hk, rfl, hd⟩ := hrel
    by_cases hlt : k < s.size
    · have hI : (k : Int) < s.size := by omega
      have HD1 := Lib.hid (fun W => ref_letter W s[k])
      have HD2 := Lib.hid (fun W => ref_digit W s[k])
      have HN := Lib.hid (fun h => hd.out.next hlt h)
      have HE := Lib.hid (fun (hk1 : at_ < k) (h : wordB s[k] = false) => (hd.out.later (g := at_ + 1) (by omega)).len hk1 hk (fun _ => h))
      have HW := Lib.hid (show wordB s[k] = (smallB s[k] || digB s[k] || s[k] == 95) from rfl)
      have HSK := Lib.hid (show smallB s[k] = false → at_ < k from fun h => by
        rcases Nat.lt_or_eq_of_le hk0 with h' | h'
        · exact h'
        · subst h'; rw [HSM.out] at h; cases h)
      have HB := Lib.hid (show ((s[k].toNat : Int) == 95) = (s[k] == 95) by
        rw [Bool.eq_iff_iff, beq_iff_eq, beq_iff_eq, ← UInt8.toNat_inj, show (95 : UInt8).toNat = 95 from rfl]; omega)
      generalize smallB s[k] = b1 at *
      generalize digB s[k] = b2 at *
      generalize hb3 : (s[k] == 95) = b3 at HW HB
      have hb := HB.out
      clear HB hb3
      cases b1
      · cases b2
        · cases b3
          · have HK1 := Lib.hid (HSK.out rfl)
            have HF := Lib.hid (HE.out HK1.out (by rw [HW.out]; rfl))
            clear HE HN HW HSK
            have hk1 : at_ < k := HK1.out
            have HL := Lib.hid (nx_word ha HSM.out hk1 HF.out)
            have hd0 : (at_ : Int) ≤ k := by omega
            have hdI : ((k - at_ : Nat) : Int) = (k : Int) - at_ := by omega
            have HDI := Lib.hid hdI
            clear hdI
            by_cases h12 : 12 < k - at_
            · have hI12 : (12 : Int) < (k : Int) - at_ := by omega
              have HR := Lib.hid (HL.out.trans (if_pos h12))
              clear h12
              go_wp2_with (first | ((go_at_call 21); refine (HD1.out _).mono ?_; rintro e w' ⟨rfl, rfl⟩) | ((go_at_call 22); refine (HD2.out _).mono ?_; rintro e w' ⟨rfl, rfl⟩))
              refine bodyPost_ret (v := .tuple #[.agg (tkv tk0 0), .int .i64 21]) (by simp [results, Tryd.results15, go_sem]; rfl) rfl ⟨?_, ?_⟩
              · rw [HR.out]; exact ret1 (oneV_err (by decide) _).symm
              · exact (Fr.refl Nob w).alloc _
            · have hI12 : ¬ (12 : Int) < (k : Int) - at_ := by omega
              have HR := Lib.hid (HL.out.trans (if_neg h12))
              clear h12
              go_wp2_with (first | ((go_at_call 21); refine (HD1.out _).mono ?_; rintro e w' ⟨rfl, rfl⟩) | ((go_at_call 22); refine (HD2.out _).mono ?_; rintro e w' ⟨rfl, rfl⟩))
              refine bodyPost_ret (v := .tuple #[.agg (tkv ⟨1, (s.data.toList.drop at_).take (k - at_), 0⟩ at_), .int .i64 0]) (by simp [results, Tryd.results15, go_sem, tkv, cut_mid]) rfl ⟨?_, ?_⟩
              · rw [HR.out]; exact ret1 (oneV_ok _ _).symm
              · exact (Fr.refl Nob w).alloc _
          · have HF := Lib.hid (HN.out (by rw [HW.out]; rfl))
            clear HE HN HW HSK
            go_wp2_with (first | ((go_at_call 21); refine (HD1.out _).mono ?_; rintro e w' ⟨rfl, rfl⟩) | ((go_at_call 22); refine (HD2.out _).mono ?_; rintro e w' ⟨rfl, rfl⟩))
            go_round
            case rel => exact ⟨k + 1, by omega, by omega, by go_num, HF⟩
            case measure => simp [intOf]; omega
        · have HF := Lib.hid (HN.out (by rw [HW.out]; rfl))
          clear HE HN HW HSK
          go_wp2_with (first | ((go_at_call 21); refine (HD1.out _).mono ?_; rintro e w' ⟨rfl, rfl⟩) | ((go_at_call 22); refine (HD2.out _).mono ?_; rintro e w' ⟨rfl, rfl⟩))
          go_round
          case rel => exact ⟨k + 1, by omega, by omega, by go_num, HF⟩
          case measure => simp [intOf]; omega
      · have HF := Lib.hid (HN.out (by rw [HW.out]; rfl))
        clear HE HN HW HSK
        go_wp2_with (first | ((go_at_call 21); refine (HD1.out _).mono ?_; rintro e w' ⟨rfl, rfl⟩) | ((go_at_call 22); refine (HD2.out _).mono ?_; rintro e w' ⟨rfl, rfl⟩))
        go_round
        case rel => exact ⟨k + 1, by omega, by omega, by go_num, HF⟩
        case measure => simp [intOf]; omega
    · have hI : ¬ (k : Int) < s.size := by omega
      have HK1 := Lib.hid (show at_ < k by omega)
      have HF := Lib.hid ((hd.out.later (g := at_ + 1) (by omega)).len HK1.out hk (fun h => absurd h hlt))
      clear hlt
      have hk1 : at_ < k := HK1.out
      have HL := Lib.hid (nx_word ha HSM.out hk1 HF.out)
      have hd0 : (at_ : Int) ≤ k := by omega
      have hdI : ((k - at_ : Nat) : Int) = (k : Int) - at_ := by omega
      have HDI := Lib.hid hdI
      clear hdI
      by_cases h12 : 12 < k - at_
      · have hI12 : (12 : Int) < (k : Int) - at_ := by omega
        have HR := Lib.hid (HL.out.trans (if_pos h12))
        clear h12
        go_wp2_with fail
        refine bodyPost_ret (v := .tuple #[.agg (tkv tk0 0), .int .i64 21]) (by simp [results, Tryd.results15, go_sem]; rfl) rfl ⟨?_, ?_⟩
        · rw [HR.out]; exact ret1 (oneV_err (by decide) _).symm
        · exact (Fr.refl Nob w).alloc _
      · have hI12 : ¬ (12 : Int) < (k : Int) - at_ := by omega
        have HR := Lib.hid (HL.out.trans (if_neg h12))
        clear h12
        go_wp2_with fail
        refine bodyPost_ret (v := .tuple #[.agg (tkv ⟨1, (s.data.toList.drop at_).take (k - at_), 0⟩ at_), .int .i64 0]) (by simp [results, Tryd.results15, go_sem, tkv, cut_mid]) rfl ⟨?_, ?_⟩
        · rw [HR.out]; exact ret1 (oneV_ok _ _).symm
        · exact (Fr.refl Nob w).alloc _
end Go.Proofs.YtlhhnhbmiamhkaaDoor
